/- Proved here, in the forms of the print's contracts: what each Go function answers, and the rows of the laws over it; by a program and by hand. -/
import Derived.Test.YtpigemgiegbblaaQ0
import Derived.Test.YtpigemgiegbblaaQchars
import Derived.Test.YtpigemgiegbblaaQcorrectorlaw5
namespace Go.Proofs.Ytpigemgiegbblaa.Q
open Go.RowKit Go.Proofs.YtpigemgiegbblaaW.PrintWords Go.Proofs.YtpigemgiegbblaaW.PrintLast Go.Proofs.YtpigemgiegbblaaW.PrintMore
attribute [local go_sem] max2_int min2_int max_two min_two max_three min_three max_four min_four   -- for this text's walks alone
set_option linter.unusedVariables false
set_option linter.unusedSimpArgs false

/-! ### correctorlaw5_CharsNone: function 5 -/
mutual
def correctorlaw5_CharsNone.j0 : Nat → Int → Int → Bool → Option (Bool)
  | 0, _, _, _ => none
  | k + 1, x0, x1, x5 => (correctorlaw5_within.f x1 3).bind fun t163 => ((some (([(⟨#[120]⟩ : ByteArray), (⟨#[117]⟩ : ByteArray), (⟨#[85]⟩ : ByteArray)] : List ByteArray) : List ByteArray)).bind fun y164 => (if 0 ≤ t163 then (if t163 < (y164.length : Int) then (if 1 + (rdOf ByteArray.empty y164 t163).size ≤ 9223372036854775807 then ((some (([2, 4, 8] : List Int) : List Int)).bind fun y168 => (if t163 < (y168.length : Int) then ((correctorlaw5_within.f (wrap64 (Int.tdiv x1 3)) (rd y168 t163)).bind fun t172 => (if 0 ≤ t172 then (if t172 ≤ 7 then (if ((⟨#[92]⟩ : ByteArray) ++ (rdOf ByteArray.empty y164 t163)).size + ((⟨#[48, 48, 48, 48, 48, 48, 48]⟩ : ByteArray).extract 0 (t172 : Int).toNat).size ≤ 9223372036854775807 then ((chars_Escape.f k (((⟨#[92]⟩ : ByteArray) ++ (rdOf ByteArray.empty y164 t163)) ++ ((⟨#[48, 48, 48, 48, 48, 48, 48]⟩ : ByteArray).extract 0 (t172 : Int).toNat))).bind fun bt173 => (if bt173.1.toList = ([] : List UInt8) then (correctorlaw5_CharsNone.j1 k x0 x5 (bt173.2 != 0)) else (correctorlaw5_CharsNone.j1 k x0 x5 true))) else (none)) else (none)) else (none))) else (none))) else (none)) else (none)) else (none)))
def correctorlaw5_CharsNone.j1 : Nat → Int → Bool → Bool → Option (Bool)
  | 0, _, _, _ => none
  | k + 1, x0, x5, x86 => if x86 = true then (some false) else ((some (([x0] : List Int) : List Int)).bind fun y175 => (if 1 + (strOfNums y175).size ≤ 9223372036854775807 then ((chars_Escape.f k ((⟨#[92]⟩ : ByteArray) ++ (strOfNums y175))).bind fun bt178 => (if x5 = true then (some true) else (some (bt178.2 == 0)))) else (none)))
end
def correctorlaw5_CharsNone.f (k : Nat) (a0 : Int) (a1 : Int) : Option (Bool) := (correctorlaw5_known.f k).bind fun t162 => (if t162 = true then (if a0 = 48 then (correctorlaw5_CharsNone.j0 k a0 a1 true) else (if a0 = 116 then (correctorlaw5_CharsNone.j0 k a0 a1 true) else (if a0 = 110 then (correctorlaw5_CharsNone.j0 k a0 a1 true) else (if a0 = 114 then (correctorlaw5_CharsNone.j0 k a0 a1 true) else (if a0 = 101 then (correctorlaw5_CharsNone.j0 k a0 a1 true) else (if a0 = 34 then (correctorlaw5_CharsNone.j0 k a0 a1 true) else (if a0 = 47 then (correctorlaw5_CharsNone.j0 k a0 a1 true) else (if a0 = 92 then (correctorlaw5_CharsNone.j0 k a0 a1 true) else (if a0 = 32 then (correctorlaw5_CharsNone.j0 k a0 a1 true) else (if a0 = 120 then (correctorlaw5_CharsNone.j0 k a0 a1 true) else (if a0 = 117 then (correctorlaw5_CharsNone.j0 k a0 a1 true) else (correctorlaw5_CharsNone.j0 k a0 a1 (a0 == 85))))))))))))) else (some false))
theorem correctorlaw5_CharsNone.mono_l : ∀ k, (∀ y0 y1 y2, LeO (correctorlaw5_CharsNone.j0 k y0 y1 y2) (correctorlaw5_CharsNone.j0 (k + 1) y0 y1 y2)) ∧ (∀ y0 y1 y2, LeO (correctorlaw5_CharsNone.j1 k y0 y1 y2) (correctorlaw5_CharsNone.j1 (k + 1) y0 y1 y2))
  | 0 => ⟨fun _ _ _ r h => by simp [correctorlaw5_CharsNone.j0] at h, fun _ _ _ r h => by simp [correctorlaw5_CharsNone.j1] at h⟩
  | k + 1 => by
    obtain ⟨ih0, ih1⟩ := correctorlaw5_CharsNone.mono_l k
    refine ⟨?_, ?_⟩
    · intro y0 y1 y2
      unfold correctorlaw5_CharsNone.j0
      repeat' first
      | (with_reducible exact ih0 _ _ _)
      | (with_reducible exact ih1 _ _ _)
      | (with_reducible exact chars_Escape.mono _ _)
      | (with_reducible exact correctorlaw5_known.mono _)
      | (with_reducible exact LeO.refl _)
      | (with_reducible exact LeO.none _)
      | (with_reducible refine LeO.ite ?_ ?_)
      | (with_reducible refine LeO.bind ?_ (fun _ => ?_))
      | exact ih0 _ _ _
      | exact ih1 _ _ _
      | exact chars_Escape.mono _ _
      | exact correctorlaw5_known.mono _
      | exact LeO.none _
      | refine LeO.ite ?_ ?_
      | refine LeO.bind ?_ (fun _ => ?_)
    · intro y0 y1 y2
      unfold correctorlaw5_CharsNone.j1
      repeat' first
      | (with_reducible exact ih0 _ _ _)
      | (with_reducible exact ih1 _ _ _)
      | (with_reducible exact chars_Escape.mono _ _)
      | (with_reducible exact correctorlaw5_known.mono _)
      | (with_reducible exact LeO.refl _)
      | (with_reducible exact LeO.none _)
      | (with_reducible refine LeO.ite ?_ ?_)
      | (with_reducible refine LeO.bind ?_ (fun _ => ?_))
      | exact ih0 _ _ _
      | exact ih1 _ _ _
      | exact chars_Escape.mono _ _
      | exact correctorlaw5_known.mono _
      | exact LeO.none _
      | refine LeO.ite ?_ ?_
      | refine LeO.bind ?_ (fun _ => ?_)
theorem correctorlaw5_CharsNone.mono : ∀ a0 a1 k, LeO (correctorlaw5_CharsNone.f k a0 a1) (correctorlaw5_CharsNone.f (k + 1) a0 a1) := by
  intro a0 a1 k
  obtain ⟨ih0, ih1⟩ := correctorlaw5_CharsNone.mono_l k
  unfold correctorlaw5_CharsNone.f
  repeat' first
      | (with_reducible exact ih0 _ _ _)
      | (with_reducible exact ih1 _ _ _)
      | (with_reducible exact chars_Escape.mono _ _)
      | (with_reducible exact correctorlaw5_known.mono _)
      | (with_reducible exact LeO.refl _)
      | (with_reducible exact LeO.none _)
      | (with_reducible refine LeO.ite ?_ ?_)
      | (with_reducible refine LeO.bind ?_ (fun _ => ?_))
      | exact ih0 _ _ _
      | exact ih1 _ _ _
      | exact chars_Escape.mono _ _
      | exact correctorlaw5_known.mono _
      | exact LeO.none _
      | refine LeO.ite ?_ ?_
      | refine LeO.bind ?_ (fun _ => ?_)
def correctorlaw5_CharsNone.T5 : Bool × List (List Nat × List Nat) := (true, [([], []), ([], []), ([0, 1], [0, 1]), ([2], [2]), ([3], [3]), ([], []), ([5], [5]), ([], []), ([], []), ([7, 8], [7, 8]), ([9], [9]), ([6, 10], [6, 10]), ([11], [11]), ([4, 12], [4, 12]), ([13, 11, 0, 1, 2, 3, 4, 5, 6, 7, 8, 9, 10, 11, 12, 13], [13])])
def correctorlaw5_CharsNone.B5 : List Nat := [0, 0, 3, 7, 15, 0, 32, 0, 0, 384, 896, 2016, 4064, 8191, 16383]
theorem correctorlaw5_CharsNone.tab5 : rtab .any (opsOf Try.f5 5) = correctorlaw5_CharsNone.T5 := by kernel_rfl
theorem correctorlaw5_CharsNone.bits5 : waitsOk correctorlaw5_CharsNone.T5.2 correctorlaw5_CharsNone.B5 = true := by kernel_rfl
set_option maxHeartbeats 8000000 in
set_option maxRecDepth 100000 in
theorem correctorlaw5_CharsNone.calls (k : Nat) (a0 : Int) (a1 : Int) (r : Bool) (w : World) (h : correctorlaw5_CharsNone.f k a0 a1 = some r) :
    Calls Try.prog 5 #[.int .u8 a0, .int .i64 a1] w fun e w' => e = .returned (.bool r) ∧ Below w.heap.size w w' := by
  have HB := Aside0.mk (Below.refl w.heap.size w)
  have H : ((correctorlaw5_known.f k).bind fun t162 => (if t162 = true then (if a0 = 48 then (correctorlaw5_CharsNone.j0 k a0 a1 true) else (if a0 = 116 then (correctorlaw5_CharsNone.j0 k a0 a1 true) else (if a0 = 110 then (correctorlaw5_CharsNone.j0 k a0 a1 true) else (if a0 = 114 then (correctorlaw5_CharsNone.j0 k a0 a1 true) else (if a0 = 101 then (correctorlaw5_CharsNone.j0 k a0 a1 true) else (if a0 = 34 then (correctorlaw5_CharsNone.j0 k a0 a1 true) else (if a0 = 47 then (correctorlaw5_CharsNone.j0 k a0 a1 true) else (if a0 = 92 then (correctorlaw5_CharsNone.j0 k a0 a1 true) else (if a0 = 32 then (correctorlaw5_CharsNone.j0 k a0 a1 true) else (if a0 = 120 then (correctorlaw5_CharsNone.j0 k a0 a1 true) else (if a0 = 117 then (correctorlaw5_CharsNone.j0 k a0 a1 true) else (correctorlaw5_CharsNone.j0 k a0 a1 (a0 == 85))))))))))))) else (some false))) = some r := h
  clear h
  replace H := Option.bind_eq_some_iff.mp H
  obtain ⟨t162, A30, H⟩ := H
  replace H : (if t162 = true then (if a0 = 48 then (correctorlaw5_CharsNone.j0 k a0 a1 true) else (if a0 = 116 then (correctorlaw5_CharsNone.j0 k a0 a1 true) else (if a0 = 110 then (correctorlaw5_CharsNone.j0 k a0 a1 true) else (if a0 = 114 then (correctorlaw5_CharsNone.j0 k a0 a1 true) else (if a0 = 101 then (correctorlaw5_CharsNone.j0 k a0 a1 true) else (if a0 = 34 then (correctorlaw5_CharsNone.j0 k a0 a1 true) else (if a0 = 47 then (correctorlaw5_CharsNone.j0 k a0 a1 true) else (if a0 = 92 then (correctorlaw5_CharsNone.j0 k a0 a1 true) else (if a0 = 32 then (correctorlaw5_CharsNone.j0 k a0 a1 true) else (if a0 = 120 then (correctorlaw5_CharsNone.j0 k a0 a1 true) else (if a0 = 117 then (correctorlaw5_CharsNone.j0 k a0 a1 true) else (correctorlaw5_CharsNone.j0 k a0 a1 (a0 == 85))))))))))))) else (some false)) = some r := H
  have A3 := Aside0.mk A30
  clear A30
  by_cases c4 : t162 = true
  · subst c4
    have H1 : (if a0 = 48 then (correctorlaw5_CharsNone.j0 k a0 a1 true) else (if a0 = 116 then (correctorlaw5_CharsNone.j0 k a0 a1 true) else (if a0 = 110 then (correctorlaw5_CharsNone.j0 k a0 a1 true) else (if a0 = 114 then (correctorlaw5_CharsNone.j0 k a0 a1 true) else (if a0 = 101 then (correctorlaw5_CharsNone.j0 k a0 a1 true) else (if a0 = 34 then (correctorlaw5_CharsNone.j0 k a0 a1 true) else (if a0 = 47 then (correctorlaw5_CharsNone.j0 k a0 a1 true) else (if a0 = 92 then (correctorlaw5_CharsNone.j0 k a0 a1 true) else (if a0 = 32 then (correctorlaw5_CharsNone.j0 k a0 a1 true) else (if a0 = 120 then (correctorlaw5_CharsNone.j0 k a0 a1 true) else (if a0 = 117 then (correctorlaw5_CharsNone.j0 k a0 a1 true) else (correctorlaw5_CharsNone.j0 k a0 a1 (a0 == 85))))))))))))) = some r := by rw [if_pos rfl] at H; exact H
    clear H
    have H := H1
    clear H1
    have HC5 := Aside0.mk H
    clear H
    go_enter Try.func5, Try.ntmps5
    go_upto_region 3 with (first | ((with_reducible refine gate_callee (f := 13) rfl ?_); refine goesL_ (some 12) rfl rfl Try.func13 (by kernel_rfl) rfl #[] rfl (by (try simp only [List.map_toArray, List.map_cons, List.map_nil]); first | done | rfl | (simp only [List.length_drop, List.length_take]; rfl) | (simp only [ByteArray.size_extract, Nat.min_self]; done) | (simp only [ByteArray.size_extract, Nat.min_self]; rfl)) ?_; (with_reducible refine (correctorlaw5_known.calls k  true _ A3.out).mono ?_); rintro e w6 ⟨rfl, hb⟩; refine ⟨_, rfl, ?_⟩; have n0_ := Aside0.mk (below_step (by repeat (first | (with_reducible first | exact HB.out | apply below_alloc | apply pw_below_drewN | apply below_drew1) | exact HB.out)) hb); clear HB; have HB := n0_; clear n0_; (try clear hb); (try clear hb2); (try clear hk); (try clear hi)))
    (try simp only [Act.put, List.setIfInBounds_toArray, List.set_cons_zero, List.set_cons_succ])
    go_cut [5] (fun v5 wc => ∃ (kq : Nat) (x5_4 : Bool), v5 = .bool x5_4 ∧ Aside0 (correctorlaw5_CharsNone.j0 kq a0 a1 x5_4 = some r) ∧ Aside0 (kq ≤ k) ∧ Aside0 (Below w.heap.size w wc))
    case first =>
      have H := HC5.out
      clear HC5
      by_cases c7 : a0 = 48
      · rw [if_pos c7] at H
        have c7b0 : (a0 == 48) = true := beq_iff_eq.mpr c7
        have c7b1 : (a0 != 48) = false := bne_eq_false_iff_eq.mpr c7
        clear c7
        (first | rw [c7b0] | (simp only [i64_w, i32_w]; rw [c7b0]) | skip)
        have H' := Aside0.mk H
        clear H
        go_wp2
        go_meet
        case rel => exact ⟨_, (true), (by first | rfl | (simp; done) | (simp [*]; done)), H', ⟨by first | omega | exact Nat.le_refl _⟩, ⟨by repeat (first | (with_reducible first | exact HB.out | apply below_alloc | apply pw_below_drewN | apply below_drew1) | exact HB.out)⟩⟩
      · rw [if_neg c7] at H
        have c7b0 : (a0 == 48) = false := beq_eq_false_iff_ne.mpr c7
        have c7b1 : (a0 != 48) = true := bne_iff_ne.mpr c7
        (first | rw [c7b0] | (simp only [i64_w, i32_w]; rw [c7b0]) | skip)
        by_cases c8 : a0 = 116
        · rw [if_pos c8] at H
          have c8b0 : (a0 == 116) = true := beq_iff_eq.mpr c8
          have c8b1 : (a0 != 116) = false := bne_eq_false_iff_eq.mpr c8
          clear c8
          have H' := Aside0.mk H
          clear H
          go_wp2
          go_meet
          case rel => exact ⟨_, (true), (by first | rfl | (simp; done) | (simp [*]; done)), H', ⟨by first | omega | exact Nat.le_refl _⟩, ⟨by repeat (first | (with_reducible first | exact HB.out | apply below_alloc | apply pw_below_drewN | apply below_drew1) | exact HB.out)⟩⟩
        · rw [if_neg c8] at H
          have c8b0 : (a0 == 116) = false := beq_eq_false_iff_ne.mpr c8
          have c8b1 : (a0 != 116) = true := bne_iff_ne.mpr c8
          by_cases c9 : a0 = 110
          · rw [if_pos c9] at H
            have c9b0 : (a0 == 110) = true := beq_iff_eq.mpr c9
            have c9b1 : (a0 != 110) = false := bne_eq_false_iff_eq.mpr c9
            clear c9
            have H' := Aside0.mk H
            clear H
            go_wp2
            go_meet
            case rel => exact ⟨_, (true), (by first | rfl | (simp; done) | (simp [*]; done)), H', ⟨by first | omega | exact Nat.le_refl _⟩, ⟨by repeat (first | (with_reducible first | exact HB.out | apply below_alloc | apply pw_below_drewN | apply below_drew1) | exact HB.out)⟩⟩
          · rw [if_neg c9] at H
            have c9b0 : (a0 == 110) = false := beq_eq_false_iff_ne.mpr c9
            have c9b1 : (a0 != 110) = true := bne_iff_ne.mpr c9
            by_cases c10 : a0 = 114
            · rw [if_pos c10] at H
              have c10b0 : (a0 == 114) = true := beq_iff_eq.mpr c10
              have c10b1 : (a0 != 114) = false := bne_eq_false_iff_eq.mpr c10
              clear c10
              have H' := Aside0.mk H
              clear H
              go_wp2
              go_meet
              case rel => exact ⟨_, (true), (by first | rfl | (simp; done) | (simp [*]; done)), H', ⟨by first | omega | exact Nat.le_refl _⟩, ⟨by repeat (first | (with_reducible first | exact HB.out | apply below_alloc | apply pw_below_drewN | apply below_drew1) | exact HB.out)⟩⟩
            · rw [if_neg c10] at H
              have c10b0 : (a0 == 114) = false := beq_eq_false_iff_ne.mpr c10
              have c10b1 : (a0 != 114) = true := bne_iff_ne.mpr c10
              by_cases c11 : a0 = 101
              · rw [if_pos c11] at H
                have c11b0 : (a0 == 101) = true := beq_iff_eq.mpr c11
                have c11b1 : (a0 != 101) = false := bne_eq_false_iff_eq.mpr c11
                clear c11
                have H' := Aside0.mk H
                clear H
                go_wp2
                go_meet
                case rel => exact ⟨_, (true), (by first | rfl | (simp; done) | (simp [*]; done)), H', ⟨by first | omega | exact Nat.le_refl _⟩, ⟨by repeat (first | (with_reducible first | exact HB.out | apply below_alloc | apply pw_below_drewN | apply below_drew1) | exact HB.out)⟩⟩
              · rw [if_neg c11] at H
                have c11b0 : (a0 == 101) = false := beq_eq_false_iff_ne.mpr c11
                have c11b1 : (a0 != 101) = true := bne_iff_ne.mpr c11
                by_cases c12 : a0 = 34
                · rw [if_pos c12] at H
                  have c12b0 : (a0 == 34) = true := beq_iff_eq.mpr c12
                  have c12b1 : (a0 != 34) = false := bne_eq_false_iff_eq.mpr c12
                  clear c12
                  have H' := Aside0.mk H
                  clear H
                  go_wp2
                  go_meet
                  case rel => exact ⟨_, (true), (by first | rfl | (simp; done) | (simp [*]; done)), H', ⟨by first | omega | exact Nat.le_refl _⟩, ⟨by repeat (first | (with_reducible first | exact HB.out | apply below_alloc | apply pw_below_drewN | apply below_drew1) | exact HB.out)⟩⟩
                · rw [if_neg c12] at H
                  have c12b0 : (a0 == 34) = false := beq_eq_false_iff_ne.mpr c12
                  have c12b1 : (a0 != 34) = true := bne_iff_ne.mpr c12
                  by_cases c13 : a0 = 47
                  · rw [if_pos c13] at H
                    have c13b0 : (a0 == 47) = true := beq_iff_eq.mpr c13
                    have c13b1 : (a0 != 47) = false := bne_eq_false_iff_eq.mpr c13
                    clear c13
                    have H' := Aside0.mk H
                    clear H
                    go_wp2
                    go_meet
                    case rel => exact ⟨_, (true), (by first | rfl | (simp; done) | (simp [*]; done)), H', ⟨by first | omega | exact Nat.le_refl _⟩, ⟨by repeat (first | (with_reducible first | exact HB.out | apply below_alloc | apply pw_below_drewN | apply below_drew1) | exact HB.out)⟩⟩
                  · rw [if_neg c13] at H
                    have c13b0 : (a0 == 47) = false := beq_eq_false_iff_ne.mpr c13
                    have c13b1 : (a0 != 47) = true := bne_iff_ne.mpr c13
                    by_cases c14 : a0 = 92
                    · rw [if_pos c14] at H
                      have c14b0 : (a0 == 92) = true := beq_iff_eq.mpr c14
                      have c14b1 : (a0 != 92) = false := bne_eq_false_iff_eq.mpr c14
                      clear c14
                      have H' := Aside0.mk H
                      clear H
                      go_wp2
                      go_meet
                      case rel => exact ⟨_, (true), (by first | rfl | (simp; done) | (simp [*]; done)), H', ⟨by first | omega | exact Nat.le_refl _⟩, ⟨by repeat (first | (with_reducible first | exact HB.out | apply below_alloc | apply pw_below_drewN | apply below_drew1) | exact HB.out)⟩⟩
                    · rw [if_neg c14] at H
                      have c14b0 : (a0 == 92) = false := beq_eq_false_iff_ne.mpr c14
                      have c14b1 : (a0 != 92) = true := bne_iff_ne.mpr c14
                      by_cases c15 : a0 = 32
                      · rw [if_pos c15] at H
                        have c15b0 : (a0 == 32) = true := beq_iff_eq.mpr c15
                        have c15b1 : (a0 != 32) = false := bne_eq_false_iff_eq.mpr c15
                        clear c15
                        have H' := Aside0.mk H
                        clear H
                        go_wp2
                        go_meet
                        case rel => exact ⟨_, (true), (by first | rfl | (simp; done) | (simp [*]; done)), H', ⟨by first | omega | exact Nat.le_refl _⟩, ⟨by repeat (first | (with_reducible first | exact HB.out | apply below_alloc | apply pw_below_drewN | apply below_drew1) | exact HB.out)⟩⟩
                      · rw [if_neg c15] at H
                        have c15b0 : (a0 == 32) = false := beq_eq_false_iff_ne.mpr c15
                        have c15b1 : (a0 != 32) = true := bne_iff_ne.mpr c15
                        by_cases c16 : a0 = 120
                        · rw [if_pos c16] at H
                          have c16b0 : (a0 == 120) = true := beq_iff_eq.mpr c16
                          have c16b1 : (a0 != 120) = false := bne_eq_false_iff_eq.mpr c16
                          clear c16
                          have H' := Aside0.mk H
                          clear H
                          go_wp2
                          go_meet
                          case rel => exact ⟨_, (true), (by first | rfl | (simp; done) | (simp [*]; done)), H', ⟨by first | omega | exact Nat.le_refl _⟩, ⟨by repeat (first | (with_reducible first | exact HB.out | apply below_alloc | apply pw_below_drewN | apply below_drew1) | exact HB.out)⟩⟩
                        · rw [if_neg c16] at H
                          have c16b0 : (a0 == 120) = false := beq_eq_false_iff_ne.mpr c16
                          have c16b1 : (a0 != 120) = true := bne_iff_ne.mpr c16
                          by_cases c17 : a0 = 117
                          · rw [if_pos c17] at H
                            have c17b0 : (a0 == 117) = true := beq_iff_eq.mpr c17
                            have c17b1 : (a0 != 117) = false := bne_eq_false_iff_eq.mpr c17
                            clear c17
                            have H' := Aside0.mk H
                            clear H
                            go_wp2
                            go_meet
                            case rel => exact ⟨_, (true), (by first | rfl | (simp; done) | (simp [*]; done)), H', ⟨by first | omega | exact Nat.le_refl _⟩, ⟨by repeat (first | (with_reducible first | exact HB.out | apply below_alloc | apply pw_below_drewN | apply below_drew1) | exact HB.out)⟩⟩
                          · rw [if_neg c17] at H
                            have c17b0 : (a0 == 117) = false := beq_eq_false_iff_ne.mpr c17
                            have c17b1 : (a0 != 117) = true := bne_iff_ne.mpr c17
                            have H' := Aside0.mk H
                            clear H
                            go_wp2
                            go_meet
                            case rel => exact ⟨_, ((a0 == 85)), (by first | rfl | (simp; done) | (simp [*]; done)), H', ⟨by first | omega | exact Nat.le_refl _⟩, ⟨by repeat (first | (with_reducible first | exact HB.out | apply below_alloc | apply pw_below_drewN | apply below_drew1) | exact HB.out)⟩⟩
    case rest =>
      clear HC5
      try clear c1
      try clear p2
      try clear c4
      try clear c5
      try clear c7
      try clear c7b0
      try clear c7b1
      try clear c8
      try clear c8b0
      try clear c8b1
      try clear c9
      try clear c9b0
      try clear c9b1
      try clear c10
      try clear c10b0
      try clear c10b1
      try clear c11
      try clear c11b0
      try clear c11b1
      try clear c12
      try clear c12b0
      try clear c12b1
      try clear c13
      try clear c13b0
      try clear c13b1
      try clear c14
      try clear c14b0
      try clear c14b1
      try clear c15
      try clear c15b0
      try clear c15b1
      try clear c16
      try clear c16b0
      try clear c16b1
      try clear c17
      try clear c17b0
      try clear c17b1
      obtain ⟨kq, x5_4, rfl, HA, HJ4, HB⟩ := hcut
      cases kq with
      | zero => exact absurd HA.out (by simp [correctorlaw5_CharsNone.j0])
      | succ kj4 =>
        have H := HA.out
        clear HA
        simp only [correctorlaw5_CharsNone.j0] at H
        replace H := Option.bind_eq_some_iff.mp H
        obtain ⟨t163, A180, H⟩ := H
        replace H : ((some (([(⟨#[120]⟩ : ByteArray), (⟨#[117]⟩ : ByteArray), (⟨#[85]⟩ : ByteArray)] : List ByteArray) : List ByteArray)).bind fun y164 => (if 0 ≤ t163 then (if t163 < (y164.length : Int) then (if 1 + (rdOf ByteArray.empty y164 t163).size ≤ 9223372036854775807 then ((some (([2, 4, 8] : List Int) : List Int)).bind fun y168 => (if t163 < (y168.length : Int) then ((correctorlaw5_within.f (wrap64 (Int.tdiv a1 3)) (rd y168 t163)).bind fun t172 => (if 0 ≤ t172 then (if t172 ≤ 7 then (if ((⟨#[92]⟩ : ByteArray) ++ (rdOf ByteArray.empty y164 t163)).size + ((⟨#[48, 48, 48, 48, 48, 48, 48]⟩ : ByteArray).extract 0 (t172 : Int).toNat).size ≤ 9223372036854775807 then ((chars_Escape.f kj4 (((⟨#[92]⟩ : ByteArray) ++ (rdOf ByteArray.empty y164 t163)) ++ ((⟨#[48, 48, 48, 48, 48, 48, 48]⟩ : ByteArray).extract 0 (t172 : Int).toNat))).bind fun bt173 => (if bt173.1.toList = ([] : List UInt8) then (correctorlaw5_CharsNone.j1 kj4 a0 x5_4 (bt173.2 != 0)) else (correctorlaw5_CharsNone.j1 kj4 a0 x5_4 true))) else (none)) else (none)) else (none))) else (none))) else (none)) else (none)) else (none))) = some r := H
        have A18 := Aside0.mk A180
        clear A180
        obtain ⟨y164, hy164⟩ : ∃ y_ : List ByteArray, y_ = (([(⟨#[120]⟩ : ByteArray), (⟨#[117]⟩ : ByteArray), (⟨#[85]⟩ : ByteArray)] : List ByteArray)) := ⟨_, rfl⟩
        replace H : (if 0 ≤ t163 then (if t163 < (y164.length : Int) then (if 1 + (rdOf ByteArray.empty y164 t163).size ≤ 9223372036854775807 then ((some (([2, 4, 8] : List Int) : List Int)).bind fun y168 => (if t163 < (y168.length : Int) then ((correctorlaw5_within.f (wrap64 (Int.tdiv a1 3)) (rd y168 t163)).bind fun t172 => (if 0 ≤ t172 then (if t172 ≤ 7 then (if ((⟨#[92]⟩ : ByteArray) ++ (rdOf ByteArray.empty y164 t163)).size + ((⟨#[48, 48, 48, 48, 48, 48, 48]⟩ : ByteArray).extract 0 (t172 : Int).toNat).size ≤ 9223372036854775807 then ((chars_Escape.f kj4 (((⟨#[92]⟩ : ByteArray) ++ (rdOf ByteArray.empty y164 t163)) ++ ((⟨#[48, 48, 48, 48, 48, 48, 48]⟩ : ByteArray).extract 0 (t172 : Int).toNat))).bind fun bt173 => (if bt173.1.toList = ([] : List UInt8) then (correctorlaw5_CharsNone.j1 kj4 a0 x5_4 (bt173.2 != 0)) else (correctorlaw5_CharsNone.j1 kj4 a0 x5_4 true))) else (none)) else (none)) else (none))) else (none))) else (none)) else (none)) else (none)) = some r := by first | (rw [hy164]; with_reducible exact H) | (have H2_ := (Option.bind_some _ _).symm.trans H; rw [hy164]; with_reducible exact H2_) | (have H2_ := (Option.bind_some _ _).symm.trans H; with_reducible exact H2_) | with_reducible exact H | (rw [hy164]; exact H) | exact H
        have Ny164 := Aside0.mk hy164
        clear hy164
        by_cases c19 : 0 ≤ t163
        · rw [if_pos c19] at H
          have c19b0 : decide (0 ≤ t163) = true := decide_eq_true c19
          clear c19
          by_cases c20 : t163 < (y164.length : Int)
          · rw [if_pos c20] at H
            have c20b0 : decide (t163 < (y164.length : Int)) = true := decide_eq_true c20
            clear c20
            by_cases c21 : 1 + (rdOf ByteArray.empty y164 t163).size ≤ 9223372036854775807
            · rw [if_pos c21] at H
              have c21b0 := eq_true c21
              have c21b1 : decide (1 + (rdOf ByteArray.empty y164 t163).size ≤ 9223372036854775807) = true := decide_eq_true c21
              try have c21b2 : (9223372036854775807 < 1 + (rdOf ByteArray.empty y164 t163).size) = False := eq_false (Nat.not_lt.2 c21)
              (try (have c21w := c21; revert c21; simp [go_sem, *] at c21w; intro c21; have c21v := eq_false (Nat.not_lt.2 c21w)))
              obtain ⟨y168, hy168⟩ : ∃ y_ : List Int, y_ = (([2, 4, 8] : List Int)) := ⟨_, rfl⟩
              replace H : (if t163 < (y168.length : Int) then ((correctorlaw5_within.f (wrap64 (Int.tdiv a1 3)) (rd y168 t163)).bind fun t172 => (if 0 ≤ t172 then (if t172 ≤ 7 then (if ((⟨#[92]⟩ : ByteArray) ++ (rdOf ByteArray.empty y164 t163)).size + ((⟨#[48, 48, 48, 48, 48, 48, 48]⟩ : ByteArray).extract 0 (t172 : Int).toNat).size ≤ 9223372036854775807 then ((chars_Escape.f kj4 (((⟨#[92]⟩ : ByteArray) ++ (rdOf ByteArray.empty y164 t163)) ++ ((⟨#[48, 48, 48, 48, 48, 48, 48]⟩ : ByteArray).extract 0 (t172 : Int).toNat))).bind fun bt173 => (if bt173.1.toList = ([] : List UInt8) then (correctorlaw5_CharsNone.j1 kj4 a0 x5_4 (bt173.2 != 0)) else (correctorlaw5_CharsNone.j1 kj4 a0 x5_4 true))) else (none)) else (none)) else (none))) else (none)) = some r := by first | (rw [hy168]; with_reducible exact H) | (have H2_ := (Option.bind_some _ _).symm.trans H; rw [hy168]; with_reducible exact H2_) | (have H2_ := (Option.bind_some _ _).symm.trans H; with_reducible exact H2_) | with_reducible exact H | (rw [hy168]; exact H) | exact H
              have Ny168 := Aside0.mk hy168
              clear hy168
              by_cases c22 : t163 < (y168.length : Int)
              · rw [if_pos c22] at H
                have c22b0 : decide (t163 < (y168.length : Int)) = true := decide_eq_true c22
                clear c22
                replace H := Option.bind_eq_some_iff.mp H
                obtain ⟨t172, A230, H⟩ := H
                replace H : (if 0 ≤ t172 then (if t172 ≤ 7 then (if ((⟨#[92]⟩ : ByteArray) ++ (rdOf ByteArray.empty y164 t163)).size + ((⟨#[48, 48, 48, 48, 48, 48, 48]⟩ : ByteArray).extract 0 (t172 : Int).toNat).size ≤ 9223372036854775807 then ((chars_Escape.f kj4 (((⟨#[92]⟩ : ByteArray) ++ (rdOf ByteArray.empty y164 t163)) ++ ((⟨#[48, 48, 48, 48, 48, 48, 48]⟩ : ByteArray).extract 0 (t172 : Int).toNat))).bind fun bt173 => (if bt173.1.toList = ([] : List UInt8) then (correctorlaw5_CharsNone.j1 kj4 a0 x5_4 (bt173.2 != 0)) else (correctorlaw5_CharsNone.j1 kj4 a0 x5_4 true))) else (none)) else (none)) else (none)) = some r := H
                have A23 := Aside0.mk A230
                clear A230
                by_cases c24 : 0 ≤ t172
                · rw [if_pos c24] at H
                  have c24b0 := eq_true c24
                  have c24b1 : decide (0 ≤ t172) = true := decide_eq_true c24
                  clear c24
                  by_cases c25 : t172 ≤ 7
                  · rw [if_pos c25] at H
                    have c25b0 := eq_true c25
                    have c25b1 : decide (t172 ≤ 7) = true := decide_eq_true c25
                    clear c25
                    by_cases c26 : ((⟨#[92]⟩ : ByteArray) ++ (rdOf ByteArray.empty y164 t163)).size + ((⟨#[48, 48, 48, 48, 48, 48, 48]⟩ : ByteArray).extract 0 (t172 : Int).toNat).size ≤ 9223372036854775807
                    · rw [if_pos c26] at H
                      have c26b0 := eq_true c26
                      have c26b1 : decide (((⟨#[92]⟩ : ByteArray) ++ (rdOf ByteArray.empty y164 t163)).size + ((⟨#[48, 48, 48, 48, 48, 48, 48]⟩ : ByteArray).extract 0 (t172 : Int).toNat).size ≤ 9223372036854775807) = true := decide_eq_true c26
                      try have c26b2 : (9223372036854775807 < ((⟨#[92]⟩ : ByteArray) ++ (rdOf ByteArray.empty y164 t163)).size + ((⟨#[48, 48, 48, 48, 48, 48, 48]⟩ : ByteArray).extract 0 (t172 : Int).toNat).size) = False := eq_false (Nat.not_lt.2 c26)
                      (try (have c26w := c26; revert c26; simp [go_sem, *] at c26w; intro c26; have c26v := eq_false (Nat.not_lt.2 c26w)))
                      replace H := Option.bind_eq_some_iff.mp H
                      obtain ⟨⟨t173, t174⟩, A270, H⟩ := H
                      replace H : (if t173.toList = ([] : List UInt8) then (correctorlaw5_CharsNone.j1 kj4 a0 x5_4 (t174 != 0)) else (correctorlaw5_CharsNone.j1 kj4 a0 x5_4 true)) = some r := H
                      have A27 := Aside0.mk A270
                      clear A270
                      have HC28 := Aside0.mk H
                      clear H
                      try go_wp2_with (first | ((with_reducible refine gate_callee (f := 16) rfl ?_); refine goesL_ (some 61) rfl rfl Try.func16 (by kernel_rfl) rfl #[.int .i64 a1, .int .i64 3] rfl (by (try simp only [List.map_toArray, List.map_cons, List.map_nil]); first | done | rfl | (simp only [List.length_drop, List.length_take]; rfl) | (simp only [ByteArray.size_extract, Nat.min_self]; done) | (simp only [ByteArray.size_extract, Nat.min_self]; rfl)) ?_; (with_reducible refine (correctorlaw5_within.calls a1 3 t163 _ A18.out).mono ?_); rintro e w' ⟨rfl, ⟨nd, rfl⟩⟩; refine ⟨_, rfl, ?_⟩))
                      have pi167 : (0 ≤ (t163 : Int)) = True := eq_true (of_decide_eq_true (by first | (with_reducible assumption) | assumption))
                      have qi167 : (t163 < (y164.length : Int)) = True := eq_true (of_decide_eq_true (by first | (with_reducible assumption) | assumption))
                      have pi171 : (0 ≤ (t163 : Int)) = True := eq_true (of_decide_eq_true (by first | (with_reducible assumption) | assumption))
                      have qi171 : (t163 < (y168.length : Int)) = True := eq_true (of_decide_eq_true (by first | (with_reducible assumption) | assumption))
                      (try (rw [drewN_self wc]; generalize hq_ : World.drewN wc _ = wc; have n0_ : Aside0 (Below w.heap.size w wc) := ⟨by rw [← hq_]; exact (by repeat (first | (with_reducible first | exact HB.out | apply below_alloc | apply pw_below_drewN | apply below_drew1) | exact HB.out))⟩; clear HB hq_; have HB := n0_; clear n0_))
                      have n0_ := Aside0.mk (below_drew1 HB.out)
                      clear HB
                      have HB := n0_
                      clear n0_
                      refine start_ (n := 15) (S := fun w' => True) (ds := []) #[false, false, false, false, false, false, false, false, false, false, false, false, false, false, false] (by kernel_rfl) rfl rfl trivial (fun hHeld => ?_); refine with_tabW correctorlaw5_CharsNone.tab5 correctorlaw5_CharsNone.bits5 (fun HT_ HW_ => ?_)
                      generalize wc.drew = w29 at HB hHeld ⊢
                      refine pure_ (i := 1) (N := some 63) (v := ?_) (a' := ?_) #[false, true, false, false, false, false, false, false, false, false, false, false, false, false, false] rfl rfl (any_of HT_.out (by kernel_rfl)) (fun _ _ _ h => h) (Or.inl ⟨by rfl, ?_⟩) ?_ ?_
                      rotate_left
                      · intro w'
                        go_simp
                        with_reducible rfl
                      rotate_left
                      · simp only [Act.put, List.setIfInBounds_toArray, List.set_cons_zero, List.set_cons_succ, i64_w, i32_w]
                        rfl
                      refine pure_ (i := 5) (N := some 67) (v := ?_) (a' := ?_) #[false, true, false, false, false, true, false, false, false, false, false, false, false, false, false] rfl rfl (any_of HT_.out (by kernel_rfl)) (fun _ _ _ h => h) (Or.inl ⟨by rfl, ?_⟩) ?_ ?_
                      rotate_left
                      · intro w'
                        go_simp
                        with_reducible rfl
                      rotate_left
                      · simp only [Act.put, List.setIfInBounds_toArray, List.set_cons_zero, List.set_cons_succ, i64_w, i32_w]
                        rfl
                      refine pure_ (i := 6) (N := some 68) (v := ?_) (a' := ?_) #[false, true, false, false, false, true, true, false, false, false, false, false, false, false, false] rfl rfl (any_of HT_.out (by kernel_rfl)) (fun _ _ _ h => h) (Or.inl ⟨by rfl, ?_⟩) ?_ ?_
                      rotate_left
                      · intro w'
                        go_simp
                        with_reducible rfl
                      rotate_left
                      · simp only [Act.put, List.setIfInBounds_toArray, List.set_cons_zero, List.set_cons_succ, i64_w, i32_w]
                        rfl
                      refine pure_ (i := 8) (N := some 70) (v := ?_) (a' := ?_) #[false, true, false, false, false, true, true, false, true, false, false, false, false, false, false] rfl rfl (any_of HT_.out (by kernel_rfl)) (fun _ _ _ h => h) (Or.inl ⟨by rfl, ?_⟩) ?_ ?_
                      rotate_left
                      · intro w'
                        go_simp
                        with_reducible rfl
                      rotate_left
                      · simp only [Act.put, List.setIfInBounds_toArray, List.set_cons_zero, List.set_cons_succ, i64_w, i32_w]
                        rfl
                      refine join_ (σ := Value × Addr × Value × Addr) 2 #[true, true, true, true, true, true, true, true, true, true, true, true, true, false, false] (fun s_ => [(62, s_.1), (65, .string (rdOf ByteArray.empty y164 t163)), (69, s_.2.2.1), (72, .int .i64 (rd y168 t163)), (73, .int .i64 t172), (64, .pointer (some (s_.2.1.add (t163).toNat))), (66, .string ((⟨#[92]⟩ : ByteArray) ++ (rdOf ByteArray.empty y164 t163))), (71, .pointer (some (s_.2.2.2.add (t163).toNat))), (74, .string ((⟨#[48, 48, 48, 48, 48, 48, 48]⟩ : ByteArray).extract 0 (t172 : Int).toNat))]) (fun s_ w' => (Kd.R Kd.string 9 w' w.heap.size (fun _ => True) s_.1 y164) ∧ (Kd.R (Kd.int .i64) 3 w' w.heap.size (fun _ => True) s_.2.2.1 y168) ∧ (∃ c_, (s_.1 : Value) = .slice (some s_.2.1) y164.length c_) ∧ (∃ c_, (s_.2.2.1 : Value) = .slice (some s_.2.2.2) y168.length c_) ∧ (Below w.heap.size w w')) ?_ ?_
                      rotate_left
                      · intro hJ0_3_7_10_11
                        refine join_ (σ := Value × Addr × Value × Addr) 4 #[true, true, true, true, true, true, true, true, true, true, true, false, false, false, false] (fun s_ => [(62, s_.1), (65, .string (rdOf ByteArray.empty y164 t163)), (69, s_.2.2.1), (72, .int .i64 (rd y168 t163)), (64, .pointer (some (s_.2.1.add (t163).toNat))), (66, .string ((⟨#[92]⟩ : ByteArray) ++ (rdOf ByteArray.empty y164 t163))), (71, .pointer (some (s_.2.2.2.add (t163).toNat)))]) (fun s_ w' => (Kd.R Kd.string 9 w' w.heap.size (fun _ => True) s_.1 y164) ∧ (Kd.R (Kd.int .i64) 3 w' w.heap.size (fun _ => True) s_.2.2.1 y168) ∧ (∃ c_, (s_.1 : Value) = .slice (some s_.2.1) y164.length c_) ∧ (∃ c_, (s_.2.2.1 : Value) = .slice (some s_.2.2.2) y168.length c_) ∧ (Below w.heap.size w w')) ?_ ?_
                        rotate_left
                        · intro hJ0_3_7_10
                          refine join_ (σ := Value × Addr × Value × Addr) 4 #[true, true, true, false, false, true, true, true, true, true, true, true, true, false, false] (fun s_ => [(62, s_.1), (69, s_.2.2.1), (72, .int .i64 (rd y168 t163)), (73, .int .i64 t172), (64, .pointer (some (s_.2.1.add (t163).toNat))), (71, .pointer (some (s_.2.2.2.add (t163).toNat))), (74, .string ((⟨#[48, 48, 48, 48, 48, 48, 48]⟩ : ByteArray).extract 0 (t172 : Int).toNat))]) (fun s_ w' => (Kd.R Kd.string 9 w' w.heap.size (fun _ => True) s_.1 y164) ∧ (Kd.R (Kd.int .i64) 3 w' w.heap.size (fun _ => True) s_.2.2.1 y168) ∧ (∃ c_, (s_.1 : Value) = .slice (some s_.2.1) y164.length c_) ∧ (∃ c_, (s_.2.2.1 : Value) = .slice (some s_.2.2.2) y168.length c_) ∧ (Below w.heap.size w w')) ?_ ?_
                          rotate_left
                          · intro hJ0_7_10_11
                            refine join_ (σ := Value × Addr × Value × Addr) 5 #[true, true, true, true, true, true, true, true, true, true, false, false, false, false, false] (fun s_ => [(62, s_.1), (65, .string (rdOf ByteArray.empty y164 t163)), (69, s_.2.2.1), (64, .pointer (some (s_.2.1.add (t163).toNat))), (66, .string ((⟨#[92]⟩ : ByteArray) ++ (rdOf ByteArray.empty y164 t163))), (71, .pointer (some (s_.2.2.2.add (t163).toNat)))]) (fun s_ w' => (Kd.R Kd.string 9 w' w.heap.size (fun _ => True) s_.1 y164) ∧ (Kd.R (Kd.int .i64) 3 w' w.heap.size (fun _ => True) s_.2.2.1 y168) ∧ (∃ c_, (s_.1 : Value) = .slice (some s_.2.1) y164.length c_) ∧ (∃ c_, (s_.2.2.1 : Value) = .slice (some s_.2.2.2) y168.length c_) ∧ (Below w.heap.size w w')) ?_ ?_
                            rotate_left
                            · intro hJ0_3_7
                              refine join_ (σ := Value × Addr × Value × Addr) 6 #[true, true, true, false, false, true, true, true, true, true, true, false, false, false, false] (fun s_ => [(62, s_.1), (69, s_.2.2.1), (72, .int .i64 (rd y168 t163)), (64, .pointer (some (s_.2.1.add (t163).toNat))), (71, .pointer (some (s_.2.2.2.add (t163).toNat)))]) (fun s_ w' => (Kd.R Kd.string 9 w' w.heap.size (fun _ => True) s_.1 y164) ∧ (Kd.R (Kd.int .i64) 3 w' w.heap.size (fun _ => True) s_.2.2.1 y168) ∧ (∃ c_, (s_.1 : Value) = .slice (some s_.2.1) y164.length c_) ∧ (∃ c_, (s_.2.2.1 : Value) = .slice (some s_.2.2.2) y168.length c_) ∧ (Below w.heap.size w w')) ?_ ?_
                              rotate_left
                              · intro hJ0_7_10
                                refine join_ (σ := Value × Addr) 6 #[false, true, false, false, false, true, true, true, true, true, true, true, true, false, false] (fun s_ => [(69, s_.1), (72, .int .i64 (rd y168 t163)), (73, .int .i64 t172), (71, .pointer (some (s_.2.add (t163).toNat))), (74, .string ((⟨#[48, 48, 48, 48, 48, 48, 48]⟩ : ByteArray).extract 0 (t172 : Int).toNat))]) (fun s_ w' => (Kd.R (Kd.int .i64) 3 w' w.heap.size (fun _ => True) s_.1 y168) ∧ (∃ c_, (s_.1 : Value) = .slice (some s_.2) y168.length c_) ∧ (Below w.heap.size w w')) ?_ ?_
                                rotate_left
                                · intro hJ7_10_11
                                  refine join_ (σ := Value × Addr) 7 #[true, true, true, true, true, true, true, false, true, false, false, false, false, false, false] (fun s_ => [(62, s_.1), (65, .string (rdOf ByteArray.empty y164 t163)), (64, .pointer (some (s_.2.add (t163).toNat))), (66, .string ((⟨#[92]⟩ : ByteArray) ++ (rdOf ByteArray.empty y164 t163)))]) (fun s_ w' => (Kd.R Kd.string 9 w' w.heap.size (fun _ => True) s_.1 y164) ∧ (∃ c_, (s_.1 : Value) = .slice (some s_.2) y164.length c_) ∧ (Below w.heap.size w w')) ?_ ?_
                                  rotate_left
                                  · intro hJ0_3
                                    refine join_ (σ := Value × Addr × Value × Addr) 7 #[true, true, true, false, false, true, true, true, true, true, false, false, false, false, false] (fun s_ => [(62, s_.1), (69, s_.2.2.1), (64, .pointer (some (s_.2.1.add (t163).toNat))), (71, .pointer (some (s_.2.2.2.add (t163).toNat)))]) (fun s_ w' => (Kd.R Kd.string 9 w' w.heap.size (fun _ => True) s_.1 y164) ∧ (Kd.R (Kd.int .i64) 3 w' w.heap.size (fun _ => True) s_.2.2.1 y168) ∧ (∃ c_, (s_.1 : Value) = .slice (some s_.2.1) y164.length c_) ∧ (∃ c_, (s_.2.2.1 : Value) = .slice (some s_.2.2.2) y168.length c_) ∧ (Below w.heap.size w w')) ?_ ?_
                                    rotate_left
                                    · intro hJ0_7
                                      refine join_ (σ := Value × Addr) 8 #[false, true, false, false, false, true, true, true, true, true, true, false, false, false, false] (fun s_ => [(69, s_.1), (72, .int .i64 (rd y168 t163)), (71, .pointer (some (s_.2.add (t163).toNat)))]) (fun s_ w' => (Kd.R (Kd.int .i64) 3 w' w.heap.size (fun _ => True) s_.1 y168) ∧ (∃ c_, (s_.1 : Value) = .slice (some s_.2) y168.length c_) ∧ (Below w.heap.size w w')) ?_ ?_
                                      rotate_left
                                      · intro hJ7_10
                                        refine join_ (σ := Value × Addr) 9 #[true, true, true, false, false, true, true, false, true, false, false, false, false, false, false] (fun s_ => [(62, s_.1), (64, .pointer (some (s_.2.add (t163).toNat)))]) (fun s_ w' => (Kd.R Kd.string 9 w' w.heap.size (fun _ => True) s_.1 y164) ∧ (∃ c_, (s_.1 : Value) = .slice (some s_.2) y164.length c_) ∧ (Below w.heap.size w w')) ?_ ?_
                                        rotate_left
                                        · intro hJ0
                                          refine join_ (σ := Value × Addr) 9 #[false, true, false, false, false, true, true, true, true, true, false, false, false, false, false] (fun s_ => [(69, s_.1), (71, .pointer (some (s_.2.add (t163).toNat)))]) (fun s_ w' => (Kd.R (Kd.int .i64) 3 w' w.heap.size (fun _ => True) s_.1 y168) ∧ (∃ c_, (s_.1 : Value) = .slice (some s_.2) y168.length c_) ∧ (Below w.heap.size w w')) ?_ ?_
                                          rotate_left
                                          · intro hJ7
                                            refine two_ (i := 0) (j := 7) (Ni := some 62) (Nj := some 69) #[true, true, false, false, false, true, true, false, true, false, false, false, false, false, false] #[false, true, false, false, false, true, true, true, true, false, false, false, false, false, false] rfl rfl rfl rfl (two_of HT_.out (by kernel_rfl)) (by decide) (by decide) (fun K hK => ?_) (fun K hK => ?_)
                                            · skip
                                              refine Kd.R_lit_step Kd.string _ 9 ?hg (N := 62) ?hd (xs := ([(⟨#[120]⟩ : ByteArray), (⟨#[117]⟩ : ByteArray), (⟨#[85]⟩ : ByteArray)] : List ByteArray)) (inner := [.string (⟨#[120]⟩ : ByteArray), .string (⟨#[117]⟩ : ByteArray), .string (⟨#[85]⟩ : ByteArray)]) (ok := fun _ => True) (okp := fun _ => True) ?hr ?hp (fun _ hk => hk) trivial (Below.refl _ _) (Nat.le_refl _) (by simp) ?_; (case hd => rfl); (case hg => rfl); (case hr => first | (go_simp; done) | (go_simp; rfl)); (case hp => exact (Reps.one (show Kd.M Kd.string _ _ _ (⟨#[120]⟩ : ByteArray) [.string (⟨#[120]⟩ : ByteArray)] from rfl) (Reps.one (show Kd.M Kd.string _ _ _ (⟨#[117]⟩ : ByteArray) [.string (⟨#[117]⟩ : ByteArray)] from rfl) (Reps.one (show Kd.M Kd.string _ _ _ (⟨#[85]⟩ : ByteArray) [.string (⟨#[85]⟩ : ByteArray)] from rfl) (Reps.none _ _)))))
                                              intro v165 w30 ho31 hb hg_ hnew_
                                              clear hg_ hnew_
                                              (first | rw [← Ny164.out] at ho31 | (simp only [Int.reduceToNat] at ho31; rw [← Ny164.out] at ho31))
                                              have n0_ := Aside0.mk (Kd.R_lower ho31 (below_size (by repeat (first | (with_reducible first | exact HB.out | apply below_alloc | apply pw_below_drewN | apply below_drew1) | exact HB.out))))
                                              have n1_ := Aside0.mk (below_step (by repeat (first | (with_reducible first | exact HB.out | apply below_alloc | apply pw_below_drewN | apply below_drew1) | exact HB.out)) hb)
                                              clear HB
                                              have HO166 := n0_
                                              have HB := n1_
                                              clear n0_ n1_
                                              clear hb ho31
                                              obtain ⟨Ao32, co32, eo32⟩ := Kd.R_slice HO166.out
                                              subst eo32
                                              obtain ⟨ado32, fo32, _⟩ := Kd.at_string (Kd.R_reads' HO166.out).2.2 0 (by decide) (by rw [Ny164.out]; simp)
                                              cases fo32
                                              refine hK.out _ _ trivial (fun hHeld => ?_)
                                              clear hK K
                                              refine norm_ (a' := ?_) ?_ ?_
                                              rotate_left
                                              · show Act.put _ (some 62) _ = _
                                                simp only [Act.put, List.setIfInBounds_toArray, List.set_cons_zero, List.set_cons_succ, i64_w, i32_w]
                                                rfl
                                              refine pure_ (i := 2) (N := some 64) (v := ?_) (a' := ?_) #[true, true, true, false, false, true, true, false, true, false, false, false, false, false, false] rfl rfl (any_of HT_.out (by kernel_rfl)) (fun _ _ _ h => h) (Or.inl ⟨by rfl, ?_⟩) ?_ ?_
                                              rotate_left
                                              · intro w'
                                                go_simp
                                                with_reducible rfl
                                              rotate_left
                                              · simp only [Act.put, List.setIfInBounds_toArray, List.set_cons_zero, List.set_cons_succ, i64_w, i32_w]
                                                rfl
                                              exact norm_ (by first | (simp only [putAll, Act.put, List.setIfInBounds_toArray, List.set_cons_zero, List.set_cons_succ]; done) | (simp only [putAll, Act.put, List.setIfInBounds_toArray, List.set_cons_zero, List.set_cons_succ]; rfl)) (hJ0 (.slice (some ado32) y164.length co32, ado32) _ ⟨(by (with_reducible repeat (first | apply Kd.R_alloc | apply Kd.R_drewN | apply Kd.R_drew)); exact HO166.out), ⟨_, rfl⟩, (by repeat (first | (with_reducible first | exact HB.out | apply below_alloc | apply pw_below_drewN | apply below_drew1) | exact HB.out))⟩)
                                            · skip
                                              refine Kd.R_lit_step (Kd.int .i64) _ 3 ?hg (N := 69) ?hd (xs := ([2, 4, 8] : List Int)) (inner := [.int .i64 2, .int .i64 4, .int .i64 8]) (ok := fun _ => True) (okp := fun _ => True) ?hr ?hp (fun _ hk => hk) trivial (Below.refl _ _) (Nat.le_refl _) (by simp) ?_; (case hd => rfl); (case hg => rfl); (case hr => first | (go_simp; done) | (go_simp; rfl)); (case hp => exact (Reps.one (show Kd.M (Kd.int .i64) _ _ _ 2 [.int .i64 2] from rfl) (Reps.one (show Kd.M (Kd.int .i64) _ _ _ 4 [.int .i64 4] from rfl) (Reps.one (show Kd.M (Kd.int .i64) _ _ _ 8 [.int .i64 8] from rfl) (Reps.none _ _)))))
                                              intro v169 w30 ho31 hb hg_ hnew_
                                              clear hg_ hnew_
                                              (first | rw [← Ny168.out] at ho31 | (simp only [Int.reduceToNat] at ho31; rw [← Ny168.out] at ho31))
                                              have n0_ := Aside0.mk (Kd.R_lower ho31 (below_size (by repeat (first | (with_reducible first | exact HB.out | apply below_alloc | apply pw_below_drewN | apply below_drew1) | exact HB.out))))
                                              have n1_ := Aside0.mk (below_step (by repeat (first | (with_reducible first | exact HB.out | apply below_alloc | apply pw_below_drewN | apply below_drew1) | exact HB.out)) hb)
                                              clear HB
                                              have HO170 := n0_
                                              have HB := n1_
                                              clear n0_ n1_
                                              clear hb ho31
                                              obtain ⟨Ao32, co32, eo32⟩ := Kd.R_slice HO170.out
                                              subst eo32
                                              obtain ⟨ado32, fo32, _⟩ := Kd.at_int (Kd.R_reads' HO170.out).2.2 0 (by decide) (by rw [Ny168.out]; simp)
                                              cases fo32
                                              refine hK.out _ _ trivial (fun hHeld => ?_)
                                              clear hK K
                                              refine norm_ (a' := ?_) ?_ ?_
                                              rotate_left
                                              · show Act.put _ (some 69) _ = _
                                                simp only [Act.put, List.setIfInBounds_toArray, List.set_cons_zero, List.set_cons_succ, i64_w, i32_w]
                                                rfl
                                              refine pure_ (i := 9) (N := some 71) (v := ?_) (a' := ?_) #[false, true, false, false, false, true, true, true, true, true, false, false, false, false, false] rfl rfl (any_of HT_.out (by kernel_rfl)) (fun _ _ _ h => h) (Or.inl ⟨by rfl, ?_⟩) ?_ ?_
                                              rotate_left
                                              · intro w'
                                                go_simp
                                                with_reducible rfl
                                              rotate_left
                                              · simp only [Act.put, List.setIfInBounds_toArray, List.set_cons_zero, List.set_cons_succ, i64_w, i32_w]
                                                rfl
                                              exact norm_ (by first | (simp only [putAll, Act.put, List.setIfInBounds_toArray, List.set_cons_zero, List.set_cons_succ]; done) | (simp only [putAll, Act.put, List.setIfInBounds_toArray, List.set_cons_zero, List.set_cons_succ]; rfl)) (hJ7 (.slice (some ado32) y168.length co32, ado32) _ ⟨(by (with_reducible repeat (first | apply Kd.R_alloc | apply Kd.R_drewN | apply Kd.R_drew)); exact HO170.out), ⟨_, rfl⟩, (by repeat (first | (with_reducible first | exact HB.out | apply below_alloc | apply pw_below_drewN | apply below_drew1) | exact HB.out))⟩)
                                          · skip
                                            rintro ⟨v169, adz_v169⟩ w33 ⟨h0_, h1_, h2_⟩
                                            have n0_ : Aside0 (Kd.R (Kd.int .i64) 3 w33 w.heap.size (fun _ => True) v169 y168) := ⟨h0_⟩
                                            have n1_ : Aside0 (∃ c_, (v169 : Value) = .slice (some adz_v169) y168.length c_) := ⟨h1_⟩
                                            have n2_ : Aside0 (Below w.heap.size w w33) := ⟨h2_⟩
                                            clear HB
                                            clear h0_ h1_ h2_
                                            have HO170 := n0_
                                            have HA_HO170 := n1_
                                            have HB := n2_
                                            clear n0_ n1_ n2_
                                            have hHeld := trivial
                                            obtain ⟨co34, eo34⟩ := HA_HO170.out
                                            clear HA_HO170
                                            subst eo34
                                            refine norm_ (a' := ?_) ?_ ?_
                                            rotate_left
                                            · simp only [putAll, Act.put, List.setIfInBounds_toArray, List.set_cons_zero, List.set_cons_succ]
                                              rfl
                                            refine two_ (i := 0) (j := 10) (Ni := some 62) (Nj := some 72) #[true, true, false, false, false, true, true, true, true, true, false, false, false, false, false] #[false, true, false, false, false, true, true, true, true, true, true, false, false, false, false] rfl rfl rfl rfl (two_of HT_.out (by kernel_rfl)) (by decide) (by decide) (fun K hK => ?_) (fun K hK => ?_)
                                            · skip
                                              refine Kd.R_lit_step Kd.string _ 9 ?hg (N := 62) ?hd (xs := ([(⟨#[120]⟩ : ByteArray), (⟨#[117]⟩ : ByteArray), (⟨#[85]⟩ : ByteArray)] : List ByteArray)) (inner := [.string (⟨#[120]⟩ : ByteArray), .string (⟨#[117]⟩ : ByteArray), .string (⟨#[85]⟩ : ByteArray)]) (ok := fun _ => True) (okp := fun _ => True) ?hr ?hp (fun _ hk => hk) trivial (Below.refl _ _) (Nat.le_refl _) (by simp) ?_; (case hd => rfl); (case hg => rfl); (case hr => first | (go_simp; done) | (go_simp; rfl)); (case hp => exact (Reps.one (show Kd.M Kd.string _ _ _ (⟨#[120]⟩ : ByteArray) [.string (⟨#[120]⟩ : ByteArray)] from rfl) (Reps.one (show Kd.M Kd.string _ _ _ (⟨#[117]⟩ : ByteArray) [.string (⟨#[117]⟩ : ByteArray)] from rfl) (Reps.one (show Kd.M Kd.string _ _ _ (⟨#[85]⟩ : ByteArray) [.string (⟨#[85]⟩ : ByteArray)] from rfl) (Reps.none _ _)))))
                                              intro v165 w35 ho36 hb hg_ hnew_
                                              clear hg_ hnew_
                                              (first | rw [← Ny164.out] at ho36 | (simp only [Int.reduceToNat] at ho36; rw [← Ny164.out] at ho36))
                                              have n0_ := Aside0.mk (Kd.R_below (by (with_reducible repeat (first | apply Kd.R_alloc | apply Kd.R_drewN | apply Kd.R_drew)); exact HO170.out) hb)
                                              have n1_ := Aside0.mk (Kd.R_lower ho36 (below_size (by repeat (first | (with_reducible first | exact HB.out | apply below_alloc | apply pw_below_drewN | apply below_drew1) | exact HB.out))))
                                              have n2_ := Aside0.mk (below_step (by repeat (first | (with_reducible first | exact HB.out | apply below_alloc | apply pw_below_drewN | apply below_drew1) | exact HB.out)) hb)
                                              clear HO170
                                              clear HB
                                              have HO170 := n0_
                                              have HO166 := n1_
                                              have HB := n2_
                                              clear n0_ n1_ n2_
                                              clear hb ho36
                                              obtain ⟨Ao37, co37, eo37⟩ := Kd.R_slice HO166.out
                                              subst eo37
                                              obtain ⟨ado37, fo37, _⟩ := Kd.at_string (Kd.R_reads' HO166.out).2.2 0 (by decide) (by rw [Ny164.out]; simp)
                                              cases fo37
                                              refine hK.out _ _ trivial (fun hHeld => ?_)
                                              clear hK K
                                              refine norm_ (a' := ?_) ?_ ?_
                                              rotate_left
                                              · show Act.put _ (some 62) _ = _
                                                simp only [Act.put, List.setIfInBounds_toArray, List.set_cons_zero, List.set_cons_succ, i64_w, i32_w]
                                                rfl
                                              refine pure_ (i := 2) (N := some 64) (v := ?_) (a' := ?_) #[true, true, true, false, false, true, true, true, true, true, false, false, false, false, false] rfl rfl (any_of HT_.out (by kernel_rfl)) (fun _ _ _ h => h) (Or.inl ⟨by rfl, ?_⟩) ?_ ?_
                                              rotate_left
                                              · intro w'
                                                go_simp
                                                with_reducible rfl
                                              rotate_left
                                              · simp only [Act.put, List.setIfInBounds_toArray, List.set_cons_zero, List.set_cons_succ, i64_w, i32_w]
                                                rfl
                                              exact norm_ (by first | (simp only [putAll, Act.put, List.setIfInBounds_toArray, List.set_cons_zero, List.set_cons_succ]; done) | (simp only [putAll, Act.put, List.setIfInBounds_toArray, List.set_cons_zero, List.set_cons_succ]; rfl)) (hJ0_7 (.slice (some ado37) y164.length co37, ado37, .slice (some adz_v169) y168.length co34, adz_v169) _ ⟨(by (with_reducible repeat (first | apply Kd.R_alloc | apply Kd.R_drewN | apply Kd.R_drew)); exact HO166.out), (by (with_reducible repeat (first | apply Kd.R_alloc | apply Kd.R_drewN | apply Kd.R_drew)); exact HO170.out), ⟨_, rfl⟩, ⟨_, rfl⟩, (by repeat (first | (with_reducible first | exact HB.out | apply below_alloc | apply pw_below_drewN | apply below_drew1) | exact HB.out))⟩)
                                            · skip
                                              (have p171 : 0 ≤ (t163 : Int) := of_decide_eq_true (by first | (with_reducible assumption) | assumption); have q171 : t163 < (y168.length : Int) := of_decide_eq_true (by first | (with_reducible assumption) | assumption); obtain ⟨ad171, e171, hx171_0⟩ := Kd.at_int (Kd.R_reads' HO170.out).2.2 t163 p171 q171; obtain rfl : adz_v169 = ad171 := (by injection e171))
                                              refine value_ (w1 := ?_) (v := ?_) (by rfl) rfl ?_ ?_
                                              rotate_left 2
                                              · go_simp
                                                constructor
                                                · rfl
                                                · rfl
                                              clear hx171_0
                                              refine hK.out _ _ trivial (fun hHeld => ?_)
                                              clear hK K
                                              refine norm_ (a' := ?_) ?_ ?_
                                              rotate_left
                                              · show Act.put _ (some 72) _ = _
                                                simp only [Act.put, List.setIfInBounds_toArray, List.set_cons_zero, List.set_cons_succ, i64_w, i32_w]
                                                rfl
                                              exact norm_ (by first | (simp only [putAll, Act.put, List.setIfInBounds_toArray, List.set_cons_zero, List.set_cons_succ]; done) | (simp only [putAll, Act.put, List.setIfInBounds_toArray, List.set_cons_zero, List.set_cons_succ]; rfl)) (hJ7_10 (.slice (some adz_v169) y168.length co34, adz_v169) _ ⟨(by (with_reducible repeat (first | apply Kd.R_alloc | apply Kd.R_drewN | apply Kd.R_drew)); exact HO170.out), ⟨_, rfl⟩, (by repeat (first | (with_reducible first | exact HB.out | apply below_alloc | apply pw_below_drewN | apply below_drew1) | exact HB.out))⟩)
                                        · skip
                                          rintro ⟨v165, adz_v165⟩ w33 ⟨h0_, h1_, h2_⟩
                                          have n0_ : Aside0 (Kd.R Kd.string 9 w33 w.heap.size (fun _ => True) v165 y164) := ⟨h0_⟩
                                          have n1_ : Aside0 (∃ c_, (v165 : Value) = .slice (some adz_v165) y164.length c_) := ⟨h1_⟩
                                          have n2_ : Aside0 (Below w.heap.size w w33) := ⟨h2_⟩
                                          clear HB
                                          clear h0_ h1_ h2_
                                          have HO166 := n0_
                                          have HA_HO166 := n1_
                                          have HB := n2_
                                          clear n0_ n1_ n2_
                                          have hHeld := trivial
                                          obtain ⟨co34, eo34⟩ := HA_HO166.out
                                          clear HA_HO166
                                          subst eo34
                                          refine norm_ (a' := ?_) ?_ ?_
                                          rotate_left
                                          · simp only [putAll, Act.put, List.setIfInBounds_toArray, List.set_cons_zero, List.set_cons_succ]
                                            rfl
                                          refine two_ (i := 3) (j := 7) (Ni := some 65) (Nj := some 69) #[true, true, true, true, false, true, true, false, true, false, false, false, false, false, false] #[true, true, true, false, false, true, true, true, true, false, false, false, false, false, false] rfl rfl rfl rfl (two_of HT_.out (by kernel_rfl)) (by decide) (by decide) (fun K hK => ?_) (fun K hK => ?_)
                                          · skip
                                            (have p167 : 0 ≤ (t163 : Int) := of_decide_eq_true (by first | (with_reducible assumption) | assumption); have q167 : t163 < (y164.length : Int) := of_decide_eq_true (by first | (with_reducible assumption) | assumption); obtain ⟨ad167, e167, hx167_0⟩ := Kd.at_string (Kd.R_reads' HO166.out).2.2 t163 p167 q167; obtain rfl : adz_v165 = ad167 := (by injection e167))
                                            refine value_ (w1 := ?_) (v := ?_) (by rfl) rfl ?_ ?_
                                            rotate_left 2
                                            · go_simp
                                              constructor
                                              · rfl
                                              · rfl
                                            clear hx167_0
                                            refine hK.out _ _ trivial (fun hHeld => ?_)
                                            clear hK K
                                            refine norm_ (a' := ?_) ?_ ?_
                                            rotate_left
                                            · show Act.put _ (some 65) _ = _
                                              simp only [Act.put, List.setIfInBounds_toArray, List.set_cons_zero, List.set_cons_succ, i64_w, i32_w]
                                              rfl
                                            refine pure_ (i := 4) (N := some 66) (v := ?_) (a' := ?_) #[true, true, true, true, true, true, true, false, true, false, false, false, false, false, false] rfl rfl (any_of HT_.out (by kernel_rfl)) (fun _ _ _ h => h) (Or.inl ⟨by rfl, ?_⟩) ?_ ?_
                                            rotate_left
                                            · intro w'
                                              go_simp
                                              with_reducible rfl
                                            rotate_left
                                            · simp only [Act.put, List.setIfInBounds_toArray, List.set_cons_zero, List.set_cons_succ, i64_w, i32_w]
                                              rfl
                                            exact norm_ (by first | (simp only [putAll, Act.put, List.setIfInBounds_toArray, List.set_cons_zero, List.set_cons_succ]; done) | (simp only [putAll, Act.put, List.setIfInBounds_toArray, List.set_cons_zero, List.set_cons_succ]; rfl)) (hJ0_3 (.slice (some adz_v165) y164.length co34, adz_v165) _ ⟨(by (with_reducible repeat (first | apply Kd.R_alloc | apply Kd.R_drewN | apply Kd.R_drew)); exact HO166.out), ⟨_, rfl⟩, (by repeat (first | (with_reducible first | exact HB.out | apply below_alloc | apply pw_below_drewN | apply below_drew1) | exact HB.out))⟩)
                                          · skip
                                            refine Kd.R_lit_step (Kd.int .i64) _ 3 ?hg (N := 69) ?hd (xs := ([2, 4, 8] : List Int)) (inner := [.int .i64 2, .int .i64 4, .int .i64 8]) (ok := fun _ => True) (okp := fun _ => True) ?hr ?hp (fun _ hk => hk) trivial (Below.refl _ _) (Nat.le_refl _) (by simp) ?_; (case hd => rfl); (case hg => rfl); (case hr => first | (go_simp; done) | (go_simp; rfl)); (case hp => exact (Reps.one (show Kd.M (Kd.int .i64) _ _ _ 2 [.int .i64 2] from rfl) (Reps.one (show Kd.M (Kd.int .i64) _ _ _ 4 [.int .i64 4] from rfl) (Reps.one (show Kd.M (Kd.int .i64) _ _ _ 8 [.int .i64 8] from rfl) (Reps.none _ _)))))
                                            intro v169 w35 ho36 hb hg_ hnew_
                                            clear hg_ hnew_
                                            (first | rw [← Ny168.out] at ho36 | (simp only [Int.reduceToNat] at ho36; rw [← Ny168.out] at ho36))
                                            have n0_ := Aside0.mk (Kd.R_below (by (with_reducible repeat (first | apply Kd.R_alloc | apply Kd.R_drewN | apply Kd.R_drew)); exact HO166.out) hb)
                                            have n1_ := Aside0.mk (Kd.R_lower ho36 (below_size (by repeat (first | (with_reducible first | exact HB.out | apply below_alloc | apply pw_below_drewN | apply below_drew1) | exact HB.out))))
                                            have n2_ := Aside0.mk (below_step (by repeat (first | (with_reducible first | exact HB.out | apply below_alloc | apply pw_below_drewN | apply below_drew1) | exact HB.out)) hb)
                                            clear HO166
                                            clear HB
                                            have HO166 := n0_
                                            have HO170 := n1_
                                            have HB := n2_
                                            clear n0_ n1_ n2_
                                            clear hb ho36
                                            obtain ⟨Ao37, co37, eo37⟩ := Kd.R_slice HO170.out
                                            subst eo37
                                            obtain ⟨ado37, fo37, _⟩ := Kd.at_int (Kd.R_reads' HO170.out).2.2 0 (by decide) (by rw [Ny168.out]; simp)
                                            cases fo37
                                            refine hK.out _ _ trivial (fun hHeld => ?_)
                                            clear hK K
                                            refine norm_ (a' := ?_) ?_ ?_
                                            rotate_left
                                            · show Act.put _ (some 69) _ = _
                                              simp only [Act.put, List.setIfInBounds_toArray, List.set_cons_zero, List.set_cons_succ, i64_w, i32_w]
                                              rfl
                                            refine pure_ (i := 9) (N := some 71) (v := ?_) (a' := ?_) #[true, true, true, false, false, true, true, true, true, true, false, false, false, false, false] rfl rfl (any_of HT_.out (by kernel_rfl)) (fun _ _ _ h => h) (Or.inl ⟨by rfl, ?_⟩) ?_ ?_
                                            rotate_left
                                            · intro w'
                                              go_simp
                                              with_reducible rfl
                                            rotate_left
                                            · simp only [Act.put, List.setIfInBounds_toArray, List.set_cons_zero, List.set_cons_succ, i64_w, i32_w]
                                              rfl
                                            exact norm_ (by first | (simp only [putAll, Act.put, List.setIfInBounds_toArray, List.set_cons_zero, List.set_cons_succ]; done) | (simp only [putAll, Act.put, List.setIfInBounds_toArray, List.set_cons_zero, List.set_cons_succ]; rfl)) (hJ0_7 (.slice (some adz_v165) y164.length co34, adz_v165, .slice (some ado37) y168.length co37, ado37) _ ⟨(by (with_reducible repeat (first | apply Kd.R_alloc | apply Kd.R_drewN | apply Kd.R_drew)); exact HO166.out), (by (with_reducible repeat (first | apply Kd.R_alloc | apply Kd.R_drewN | apply Kd.R_drew)); exact HO170.out), ⟨_, rfl⟩, ⟨_, rfl⟩, (by repeat (first | (with_reducible first | exact HB.out | apply below_alloc | apply pw_below_drewN | apply below_drew1) | exact HB.out))⟩)
                                      · skip
                                        rintro ⟨v169, adz_v169⟩ w33 ⟨h0_, h1_, h2_⟩
                                        have n0_ : Aside0 (Kd.R (Kd.int .i64) 3 w33 w.heap.size (fun _ => True) v169 y168) := ⟨h0_⟩
                                        have n1_ : Aside0 (∃ c_, (v169 : Value) = .slice (some adz_v169) y168.length c_) := ⟨h1_⟩
                                        have n2_ : Aside0 (Below w.heap.size w w33) := ⟨h2_⟩
                                        clear HB
                                        clear h0_ h1_ h2_
                                        have HO170 := n0_
                                        have HA_HO170 := n1_
                                        have HB := n2_
                                        clear n0_ n1_ n2_
                                        have hHeld := trivial
                                        obtain ⟨co34, eo34⟩ := HA_HO170.out
                                        clear HA_HO170
                                        subst eo34
                                        refine norm_ (a' := ?_) ?_ ?_
                                        rotate_left
                                        · simp only [putAll, Act.put, List.setIfInBounds_toArray, List.set_cons_zero, List.set_cons_succ]
                                          rfl
                                        refine two_ (i := 0) (j := 11) (Ni := some 62) (Nj := some 73) #[true, true, false, false, false, true, true, true, true, true, true, false, false, false, false] #[false, true, false, false, false, true, true, true, true, true, true, true, false, false, false] rfl rfl rfl rfl (two_of HT_.out (by kernel_rfl)) (by decide) (by decide) (fun K hK => ?_) (fun K hK => ?_)
                                        · skip
                                          refine Kd.R_lit_step Kd.string _ 9 ?hg (N := 62) ?hd (xs := ([(⟨#[120]⟩ : ByteArray), (⟨#[117]⟩ : ByteArray), (⟨#[85]⟩ : ByteArray)] : List ByteArray)) (inner := [.string (⟨#[120]⟩ : ByteArray), .string (⟨#[117]⟩ : ByteArray), .string (⟨#[85]⟩ : ByteArray)]) (ok := fun _ => True) (okp := fun _ => True) ?hr ?hp (fun _ hk => hk) trivial (Below.refl _ _) (Nat.le_refl _) (by simp) ?_; (case hd => rfl); (case hg => rfl); (case hr => first | (go_simp; done) | (go_simp; rfl)); (case hp => exact (Reps.one (show Kd.M Kd.string _ _ _ (⟨#[120]⟩ : ByteArray) [.string (⟨#[120]⟩ : ByteArray)] from rfl) (Reps.one (show Kd.M Kd.string _ _ _ (⟨#[117]⟩ : ByteArray) [.string (⟨#[117]⟩ : ByteArray)] from rfl) (Reps.one (show Kd.M Kd.string _ _ _ (⟨#[85]⟩ : ByteArray) [.string (⟨#[85]⟩ : ByteArray)] from rfl) (Reps.none _ _)))))
                                          intro v165 w35 ho36 hb hg_ hnew_
                                          clear hg_ hnew_
                                          (first | rw [← Ny164.out] at ho36 | (simp only [Int.reduceToNat] at ho36; rw [← Ny164.out] at ho36))
                                          have n0_ := Aside0.mk (Kd.R_below (by (with_reducible repeat (first | apply Kd.R_alloc | apply Kd.R_drewN | apply Kd.R_drew)); exact HO170.out) hb)
                                          have n1_ := Aside0.mk (Kd.R_lower ho36 (below_size (by repeat (first | (with_reducible first | exact HB.out | apply below_alloc | apply pw_below_drewN | apply below_drew1) | exact HB.out))))
                                          have n2_ := Aside0.mk (below_step (by repeat (first | (with_reducible first | exact HB.out | apply below_alloc | apply pw_below_drewN | apply below_drew1) | exact HB.out)) hb)
                                          clear HO170
                                          clear HB
                                          have HO170 := n0_
                                          have HO166 := n1_
                                          have HB := n2_
                                          clear n0_ n1_ n2_
                                          clear hb ho36
                                          obtain ⟨Ao37, co37, eo37⟩ := Kd.R_slice HO166.out
                                          subst eo37
                                          obtain ⟨ado37, fo37, _⟩ := Kd.at_string (Kd.R_reads' HO166.out).2.2 0 (by decide) (by rw [Ny164.out]; simp)
                                          cases fo37
                                          refine hK.out _ _ trivial (fun hHeld => ?_)
                                          clear hK K
                                          refine norm_ (a' := ?_) ?_ ?_
                                          rotate_left
                                          · show Act.put _ (some 62) _ = _
                                            simp only [Act.put, List.setIfInBounds_toArray, List.set_cons_zero, List.set_cons_succ, i64_w, i32_w]
                                            rfl
                                          refine pure_ (i := 2) (N := some 64) (v := ?_) (a' := ?_) #[true, true, true, false, false, true, true, true, true, true, true, false, false, false, false] rfl rfl (any_of HT_.out (by kernel_rfl)) (fun _ _ _ h => h) (Or.inl ⟨by rfl, ?_⟩) ?_ ?_
                                          rotate_left
                                          · intro w'
                                            go_simp
                                            with_reducible rfl
                                          rotate_left
                                          · simp only [Act.put, List.setIfInBounds_toArray, List.set_cons_zero, List.set_cons_succ, i64_w, i32_w]
                                            rfl
                                          exact norm_ (by first | (simp only [putAll, Act.put, List.setIfInBounds_toArray, List.set_cons_zero, List.set_cons_succ]; done) | (simp only [putAll, Act.put, List.setIfInBounds_toArray, List.set_cons_zero, List.set_cons_succ]; rfl)) (hJ0_7_10 (.slice (some ado37) y164.length co37, ado37, .slice (some adz_v169) y168.length co34, adz_v169) _ ⟨(by (with_reducible repeat (first | apply Kd.R_alloc | apply Kd.R_drewN | apply Kd.R_drew)); exact HO166.out), (by (with_reducible repeat (first | apply Kd.R_alloc | apply Kd.R_drewN | apply Kd.R_drew)); exact HO170.out), ⟨_, rfl⟩, ⟨_, rfl⟩, (by repeat (first | (with_reducible first | exact HB.out | apply below_alloc | apply pw_below_drewN | apply below_drew1) | exact HB.out))⟩)
                                        · skip
                                          refine goes_ Try.func16 (by kernel_rfl) rfl #[.int .i64 (wrap64 (Int.tdiv a1 3)), .int .i64 (rd y168 t163)] (by rfl) rfl rfl (by (try simp only [List.map_toArray, List.map_cons, List.map_nil]); first | done | rfl | (simp only [List.length_drop, List.length_take]; rfl) | (simp only [ByteArray.size_extract, Nat.min_self]; done) | (simp only [ByteArray.size_extract, Nat.min_self]; rfl)) ?_
                                          with_reducible refine (correctorlaw5_within.calls (wrap64 (Int.tdiv a1 3)) (rd y168 t163) t172 _ A23.out).mono ?_
                                          rintro e w' ⟨rfl, ⟨nd, rfl⟩⟩
                                          refine ⟨_, rfl, ?_⟩
                                          refine hK.out _ _ trivial (fun hHeld => ?_)
                                          clear hK K
                                          refine norm_ (a' := ?_) ?_ ?_
                                          rotate_left
                                          · show Act.put _ (some 73) _ = _
                                            simp only [Act.put, List.setIfInBounds_toArray, List.set_cons_zero, List.set_cons_succ, i64_w, i32_w]
                                            rfl
                                          refine pure_ (i := 12) (N := some 74) (v := ?_) (a' := ?_) #[false, true, false, false, false, true, true, true, true, true, true, true, true, false, false] rfl rfl (any_of HT_.out (by kernel_rfl)) (fun _ _ _ h => h) (Or.inl ⟨by rfl, ?_⟩) ?_ ?_
                                          rotate_left
                                          · intro w'
                                            go_simp
                                            with_reducible rfl
                                          rotate_left
                                          · simp only [Act.put, List.setIfInBounds_toArray, List.set_cons_zero, List.set_cons_succ, i64_w, i32_w]
                                            rfl
                                          exact norm_ (by first | (simp only [putAll, Act.put, List.setIfInBounds_toArray, List.set_cons_zero, List.set_cons_succ]; done) | (simp only [putAll, Act.put, List.setIfInBounds_toArray, List.set_cons_zero, List.set_cons_succ]; rfl)) (hJ7_10_11 (.slice (some adz_v169) y168.length co34, adz_v169) _ ⟨(by (with_reducible repeat (first | apply Kd.R_alloc | apply Kd.R_drewN | apply Kd.R_drew)); exact HO170.out), ⟨_, rfl⟩, (by repeat (first | (with_reducible first | exact HB.out | apply below_alloc | apply pw_below_drewN | apply below_drew1) | exact HB.out))⟩)
                                    · skip
                                      rintro ⟨v165, adz_v165, v169, adz_v169⟩ w36 ⟨h0_, h1_, h2_, h3_, h4_⟩
                                      have n0_ : Aside0 (Kd.R Kd.string 9 w36 w.heap.size (fun _ => True) v165 y164) := ⟨h0_⟩
                                      have n1_ : Aside0 (Kd.R (Kd.int .i64) 3 w36 w.heap.size (fun _ => True) v169 y168) := ⟨h1_⟩
                                      have n2_ : Aside0 (∃ c_, (v165 : Value) = .slice (some adz_v165) y164.length c_) := ⟨h2_⟩
                                      have n3_ : Aside0 (∃ c_, (v169 : Value) = .slice (some adz_v169) y168.length c_) := ⟨h3_⟩
                                      have n4_ : Aside0 (Below w.heap.size w w36) := ⟨h4_⟩
                                      clear HB
                                      clear h0_ h1_ h2_ h3_ h4_
                                      have HO166 := n0_
                                      have HO170 := n1_
                                      have HA_HO166 := n2_
                                      have HA_HO170 := n3_
                                      have HB := n4_
                                      clear n0_ n1_ n2_ n3_ n4_
                                      have hHeld := trivial
                                      obtain ⟨co37, eo37⟩ := HA_HO166.out
                                      clear HA_HO166
                                      subst eo37
                                      obtain ⟨co38, eo38⟩ := HA_HO170.out
                                      clear HA_HO170
                                      subst eo38
                                      refine norm_ (a' := ?_) ?_ ?_
                                      rotate_left
                                      · simp only [putAll, Act.put, List.setIfInBounds_toArray, List.set_cons_zero, List.set_cons_succ]
                                        rfl
                                      refine two_ (i := 3) (j := 10) (Ni := some 65) (Nj := some 72) #[true, true, true, true, false, true, true, true, true, true, false, false, false, false, false] #[true, true, true, false, false, true, true, true, true, true, true, false, false, false, false] rfl rfl rfl rfl (two_of HT_.out (by kernel_rfl)) (by decide) (by decide) (fun K hK => ?_) (fun K hK => ?_)
                                      · skip
                                        (have p167 : 0 ≤ (t163 : Int) := of_decide_eq_true (by first | (with_reducible assumption) | assumption); have q167 : t163 < (y164.length : Int) := of_decide_eq_true (by first | (with_reducible assumption) | assumption); obtain ⟨ad167, e167, hx167_0⟩ := Kd.at_string (Kd.R_reads' HO166.out).2.2 t163 p167 q167; obtain rfl : adz_v165 = ad167 := (by injection e167))
                                        refine value_ (w1 := ?_) (v := ?_) (by rfl) rfl ?_ ?_
                                        rotate_left 2
                                        · go_simp
                                          constructor
                                          · rfl
                                          · rfl
                                        clear hx167_0
                                        refine hK.out _ _ trivial (fun hHeld => ?_)
                                        clear hK K
                                        refine norm_ (a' := ?_) ?_ ?_
                                        rotate_left
                                        · show Act.put _ (some 65) _ = _
                                          simp only [Act.put, List.setIfInBounds_toArray, List.set_cons_zero, List.set_cons_succ, i64_w, i32_w]
                                          rfl
                                        refine pure_ (i := 4) (N := some 66) (v := ?_) (a' := ?_) #[true, true, true, true, true, true, true, true, true, true, false, false, false, false, false] rfl rfl (any_of HT_.out (by kernel_rfl)) (fun _ _ _ h => h) (Or.inl ⟨by rfl, ?_⟩) ?_ ?_
                                        rotate_left
                                        · intro w'
                                          go_simp
                                          with_reducible rfl
                                        rotate_left
                                        · simp only [Act.put, List.setIfInBounds_toArray, List.set_cons_zero, List.set_cons_succ, i64_w, i32_w]
                                          rfl
                                        exact norm_ (by first | (simp only [putAll, Act.put, List.setIfInBounds_toArray, List.set_cons_zero, List.set_cons_succ]; done) | (simp only [putAll, Act.put, List.setIfInBounds_toArray, List.set_cons_zero, List.set_cons_succ]; rfl)) (hJ0_3_7 (.slice (some adz_v165) y164.length co37, adz_v165, .slice (some adz_v169) y168.length co38, adz_v169) _ ⟨(by (with_reducible repeat (first | apply Kd.R_alloc | apply Kd.R_drewN | apply Kd.R_drew)); exact HO166.out), (by (with_reducible repeat (first | apply Kd.R_alloc | apply Kd.R_drewN | apply Kd.R_drew)); exact HO170.out), ⟨_, rfl⟩, ⟨_, rfl⟩, (by repeat (first | (with_reducible first | exact HB.out | apply below_alloc | apply pw_below_drewN | apply below_drew1) | exact HB.out))⟩)
                                      · skip
                                        (have p171 : 0 ≤ (t163 : Int) := of_decide_eq_true (by first | (with_reducible assumption) | assumption); have q171 : t163 < (y168.length : Int) := of_decide_eq_true (by first | (with_reducible assumption) | assumption); obtain ⟨ad171, e171, hx171_0⟩ := Kd.at_int (Kd.R_reads' HO170.out).2.2 t163 p171 q171; obtain rfl : adz_v169 = ad171 := (by injection e171))
                                        refine value_ (w1 := ?_) (v := ?_) (by rfl) rfl ?_ ?_
                                        rotate_left 2
                                        · go_simp
                                          constructor
                                          · rfl
                                          · rfl
                                        clear hx171_0
                                        refine hK.out _ _ trivial (fun hHeld => ?_)
                                        clear hK K
                                        refine norm_ (a' := ?_) ?_ ?_
                                        rotate_left
                                        · show Act.put _ (some 72) _ = _
                                          simp only [Act.put, List.setIfInBounds_toArray, List.set_cons_zero, List.set_cons_succ, i64_w, i32_w]
                                          rfl
                                        exact norm_ (by first | (simp only [putAll, Act.put, List.setIfInBounds_toArray, List.set_cons_zero, List.set_cons_succ]; done) | (simp only [putAll, Act.put, List.setIfInBounds_toArray, List.set_cons_zero, List.set_cons_succ]; rfl)) (hJ0_7_10 (.slice (some adz_v165) y164.length co37, adz_v165, .slice (some adz_v169) y168.length co38, adz_v169) _ ⟨(by (with_reducible repeat (first | apply Kd.R_alloc | apply Kd.R_drewN | apply Kd.R_drew)); exact HO166.out), (by (with_reducible repeat (first | apply Kd.R_alloc | apply Kd.R_drewN | apply Kd.R_drew)); exact HO170.out), ⟨_, rfl⟩, ⟨_, rfl⟩, (by repeat (first | (with_reducible first | exact HB.out | apply below_alloc | apply pw_below_drewN | apply below_drew1) | exact HB.out))⟩)
                                  · skip
                                    rintro ⟨v165, adz_v165⟩ w33 ⟨h0_, h1_, h2_⟩
                                    have n0_ : Aside0 (Kd.R Kd.string 9 w33 w.heap.size (fun _ => True) v165 y164) := ⟨h0_⟩
                                    have n1_ : Aside0 (∃ c_, (v165 : Value) = .slice (some adz_v165) y164.length c_) := ⟨h1_⟩
                                    have n2_ : Aside0 (Below w.heap.size w w33) := ⟨h2_⟩
                                    clear HB
                                    clear h0_ h1_ h2_
                                    have HO166 := n0_
                                    have HA_HO166 := n1_
                                    have HB := n2_
                                    clear n0_ n1_ n2_
                                    have hHeld := trivial
                                    obtain ⟨co34, eo34⟩ := HA_HO166.out
                                    clear HA_HO166
                                    subst eo34
                                    refine norm_ (a' := ?_) ?_ ?_
                                    rotate_left
                                    · simp only [putAll, Act.put, List.setIfInBounds_toArray, List.set_cons_zero, List.set_cons_succ]
                                      rfl
                                    refine one_ (i := 7) (N := some 69) #[true, true, true, true, true, true, true, true, true, false, false, false, false, false, false] rfl rfl (one_of HT_.out (by kernel_rfl)) (by decide) (fun K hK => ?_)
                                    refine Kd.R_lit_step (Kd.int .i64) _ 3 ?hg (N := 69) ?hd (xs := ([2, 4, 8] : List Int)) (inner := [.int .i64 2, .int .i64 4, .int .i64 8]) (ok := fun _ => True) (okp := fun _ => True) ?hr ?hp (fun _ hk => hk) trivial (Below.refl _ _) (Nat.le_refl _) (by simp) ?_; (case hd => rfl); (case hg => rfl); (case hr => first | (go_simp; done) | (go_simp; rfl)); (case hp => exact (Reps.one (show Kd.M (Kd.int .i64) _ _ _ 2 [.int .i64 2] from rfl) (Reps.one (show Kd.M (Kd.int .i64) _ _ _ 4 [.int .i64 4] from rfl) (Reps.one (show Kd.M (Kd.int .i64) _ _ _ 8 [.int .i64 8] from rfl) (Reps.none _ _)))))
                                    intro v169 w35 ho36 hb hg_ hnew_
                                    clear hg_ hnew_
                                    (first | rw [← Ny168.out] at ho36 | (simp only [Int.reduceToNat] at ho36; rw [← Ny168.out] at ho36))
                                    have n0_ := Aside0.mk (Kd.R_below (by (with_reducible repeat (first | apply Kd.R_alloc | apply Kd.R_drewN | apply Kd.R_drew)); exact HO166.out) hb)
                                    have n1_ := Aside0.mk (Kd.R_lower ho36 (below_size (by repeat (first | (with_reducible first | exact HB.out | apply below_alloc | apply pw_below_drewN | apply below_drew1) | exact HB.out))))
                                    have n2_ := Aside0.mk (below_step (by repeat (first | (with_reducible first | exact HB.out | apply below_alloc | apply pw_below_drewN | apply below_drew1) | exact HB.out)) hb)
                                    clear HO166
                                    clear HB
                                    have HO166 := n0_
                                    have HO170 := n1_
                                    have HB := n2_
                                    clear n0_ n1_ n2_
                                    clear hb ho36
                                    obtain ⟨Ao37, co37, eo37⟩ := Kd.R_slice HO170.out
                                    subst eo37
                                    obtain ⟨ado37, fo37, _⟩ := Kd.at_int (Kd.R_reads' HO170.out).2.2 0 (by decide) (by rw [Ny168.out]; simp)
                                    cases fo37
                                    refine hK.out _ _ trivial (fun hHeld => ?_)
                                    clear hK K
                                    refine norm_ (a' := ?_) ?_ ?_
                                    rotate_left
                                    · show Act.put _ (some 69) _ = _
                                      simp only [Act.put, List.setIfInBounds_toArray, List.set_cons_zero, List.set_cons_succ, i64_w, i32_w]
                                      rfl
                                    refine pure_ (i := 9) (N := some 71) (v := ?_) (a' := ?_) #[true, true, true, true, true, true, true, true, true, true, false, false, false, false, false] rfl rfl (any_of HT_.out (by kernel_rfl)) (fun _ _ _ h => h) (Or.inl ⟨by rfl, ?_⟩) ?_ ?_
                                    rotate_left
                                    · intro w'
                                      go_simp
                                      with_reducible rfl
                                    rotate_left
                                    · simp only [Act.put, List.setIfInBounds_toArray, List.set_cons_zero, List.set_cons_succ, i64_w, i32_w]
                                      rfl
                                    exact norm_ (by first | (simp only [putAll, Act.put, List.setIfInBounds_toArray, List.set_cons_zero, List.set_cons_succ]; done) | (simp only [putAll, Act.put, List.setIfInBounds_toArray, List.set_cons_zero, List.set_cons_succ]; rfl)) (hJ0_3_7 (.slice (some adz_v165) y164.length co34, adz_v165, .slice (some ado37) y168.length co37, ado37) _ ⟨(by (with_reducible repeat (first | apply Kd.R_alloc | apply Kd.R_drewN | apply Kd.R_drew)); exact HO166.out), (by (with_reducible repeat (first | apply Kd.R_alloc | apply Kd.R_drewN | apply Kd.R_drew)); exact HO170.out), ⟨_, rfl⟩, ⟨_, rfl⟩, (by repeat (first | (with_reducible first | exact HB.out | apply below_alloc | apply pw_below_drewN | apply below_drew1) | exact HB.out))⟩)
                                · skip
                                  rintro ⟨v169, adz_v169⟩ w33 ⟨h0_, h1_, h2_⟩
                                  have n0_ : Aside0 (Kd.R (Kd.int .i64) 3 w33 w.heap.size (fun _ => True) v169 y168) := ⟨h0_⟩
                                  have n1_ : Aside0 (∃ c_, (v169 : Value) = .slice (some adz_v169) y168.length c_) := ⟨h1_⟩
                                  have n2_ : Aside0 (Below w.heap.size w w33) := ⟨h2_⟩
                                  clear HB
                                  clear h0_ h1_ h2_
                                  have HO170 := n0_
                                  have HA_HO170 := n1_
                                  have HB := n2_
                                  clear n0_ n1_ n2_
                                  have hHeld := trivial
                                  obtain ⟨co34, eo34⟩ := HA_HO170.out
                                  clear HA_HO170
                                  subst eo34
                                  refine norm_ (a' := ?_) ?_ ?_
                                  rotate_left
                                  · simp only [putAll, Act.put, List.setIfInBounds_toArray, List.set_cons_zero, List.set_cons_succ]
                                    rfl
                                  refine one_ (i := 0) (N := some 62) #[true, true, false, false, false, true, true, true, true, true, true, true, true, false, false] rfl rfl (one_of HT_.out (by kernel_rfl)) (by decide) (fun K hK => ?_)
                                  refine Kd.R_lit_step Kd.string _ 9 ?hg (N := 62) ?hd (xs := ([(⟨#[120]⟩ : ByteArray), (⟨#[117]⟩ : ByteArray), (⟨#[85]⟩ : ByteArray)] : List ByteArray)) (inner := [.string (⟨#[120]⟩ : ByteArray), .string (⟨#[117]⟩ : ByteArray), .string (⟨#[85]⟩ : ByteArray)]) (ok := fun _ => True) (okp := fun _ => True) ?hr ?hp (fun _ hk => hk) trivial (Below.refl _ _) (Nat.le_refl _) (by simp) ?_; (case hd => rfl); (case hg => rfl); (case hr => first | (go_simp; done) | (go_simp; rfl)); (case hp => exact (Reps.one (show Kd.M Kd.string _ _ _ (⟨#[120]⟩ : ByteArray) [.string (⟨#[120]⟩ : ByteArray)] from rfl) (Reps.one (show Kd.M Kd.string _ _ _ (⟨#[117]⟩ : ByteArray) [.string (⟨#[117]⟩ : ByteArray)] from rfl) (Reps.one (show Kd.M Kd.string _ _ _ (⟨#[85]⟩ : ByteArray) [.string (⟨#[85]⟩ : ByteArray)] from rfl) (Reps.none _ _)))))
                                  intro v165 w35 ho36 hb hg_ hnew_
                                  clear hg_ hnew_
                                  (first | rw [← Ny164.out] at ho36 | (simp only [Int.reduceToNat] at ho36; rw [← Ny164.out] at ho36))
                                  have n0_ := Aside0.mk (Kd.R_below (by (with_reducible repeat (first | apply Kd.R_alloc | apply Kd.R_drewN | apply Kd.R_drew)); exact HO170.out) hb)
                                  have n1_ := Aside0.mk (Kd.R_lower ho36 (below_size (by repeat (first | (with_reducible first | exact HB.out | apply below_alloc | apply pw_below_drewN | apply below_drew1) | exact HB.out))))
                                  have n2_ := Aside0.mk (below_step (by repeat (first | (with_reducible first | exact HB.out | apply below_alloc | apply pw_below_drewN | apply below_drew1) | exact HB.out)) hb)
                                  clear HO170
                                  clear HB
                                  have HO170 := n0_
                                  have HO166 := n1_
                                  have HB := n2_
                                  clear n0_ n1_ n2_
                                  clear hb ho36
                                  obtain ⟨Ao37, co37, eo37⟩ := Kd.R_slice HO166.out
                                  subst eo37
                                  obtain ⟨ado37, fo37, _⟩ := Kd.at_string (Kd.R_reads' HO166.out).2.2 0 (by decide) (by rw [Ny164.out]; simp)
                                  cases fo37
                                  refine hK.out _ _ trivial (fun hHeld => ?_)
                                  clear hK K
                                  refine norm_ (a' := ?_) ?_ ?_
                                  rotate_left
                                  · show Act.put _ (some 62) _ = _
                                    simp only [Act.put, List.setIfInBounds_toArray, List.set_cons_zero, List.set_cons_succ, i64_w, i32_w]
                                    rfl
                                  refine pure_ (i := 2) (N := some 64) (v := ?_) (a' := ?_) #[true, true, true, false, false, true, true, true, true, true, true, true, true, false, false] rfl rfl (any_of HT_.out (by kernel_rfl)) (fun _ _ _ h => h) (Or.inl ⟨by rfl, ?_⟩) ?_ ?_
                                  rotate_left
                                  · intro w'
                                    go_simp
                                    with_reducible rfl
                                  rotate_left
                                  · simp only [Act.put, List.setIfInBounds_toArray, List.set_cons_zero, List.set_cons_succ, i64_w, i32_w]
                                    rfl
                                  exact norm_ (by first | (simp only [putAll, Act.put, List.setIfInBounds_toArray, List.set_cons_zero, List.set_cons_succ]; done) | (simp only [putAll, Act.put, List.setIfInBounds_toArray, List.set_cons_zero, List.set_cons_succ]; rfl)) (hJ0_7_10_11 (.slice (some ado37) y164.length co37, ado37, .slice (some adz_v169) y168.length co34, adz_v169) _ ⟨(by (with_reducible repeat (first | apply Kd.R_alloc | apply Kd.R_drewN | apply Kd.R_drew)); exact HO166.out), (by (with_reducible repeat (first | apply Kd.R_alloc | apply Kd.R_drewN | apply Kd.R_drew)); exact HO170.out), ⟨_, rfl⟩, ⟨_, rfl⟩, (by repeat (first | (with_reducible first | exact HB.out | apply below_alloc | apply pw_below_drewN | apply below_drew1) | exact HB.out))⟩)
                              · skip
                                rintro ⟨v165, adz_v165, v169, adz_v169⟩ w36 ⟨h0_, h1_, h2_, h3_, h4_⟩
                                have n0_ : Aside0 (Kd.R Kd.string 9 w36 w.heap.size (fun _ => True) v165 y164) := ⟨h0_⟩
                                have n1_ : Aside0 (Kd.R (Kd.int .i64) 3 w36 w.heap.size (fun _ => True) v169 y168) := ⟨h1_⟩
                                have n2_ : Aside0 (∃ c_, (v165 : Value) = .slice (some adz_v165) y164.length c_) := ⟨h2_⟩
                                have n3_ : Aside0 (∃ c_, (v169 : Value) = .slice (some adz_v169) y168.length c_) := ⟨h3_⟩
                                have n4_ : Aside0 (Below w.heap.size w w36) := ⟨h4_⟩
                                clear HB
                                clear h0_ h1_ h2_ h3_ h4_
                                have HO166 := n0_
                                have HO170 := n1_
                                have HA_HO166 := n2_
                                have HA_HO170 := n3_
                                have HB := n4_
                                clear n0_ n1_ n2_ n3_ n4_
                                have hHeld := trivial
                                obtain ⟨co37, eo37⟩ := HA_HO166.out
                                clear HA_HO166
                                subst eo37
                                obtain ⟨co38, eo38⟩ := HA_HO170.out
                                clear HA_HO170
                                subst eo38
                                refine norm_ (a' := ?_) ?_ ?_
                                rotate_left
                                · simp only [putAll, Act.put, List.setIfInBounds_toArray, List.set_cons_zero, List.set_cons_succ]
                                  rfl
                                refine two_ (i := 3) (j := 11) (Ni := some 65) (Nj := some 73) #[true, true, true, true, false, true, true, true, true, true, true, false, false, false, false] #[true, true, true, false, false, true, true, true, true, true, true, true, false, false, false] rfl rfl rfl rfl (two_of HT_.out (by kernel_rfl)) (by decide) (by decide) (fun K hK => ?_) (fun K hK => ?_)
                                · skip
                                  (have p167 : 0 ≤ (t163 : Int) := of_decide_eq_true (by first | (with_reducible assumption) | assumption); have q167 : t163 < (y164.length : Int) := of_decide_eq_true (by first | (with_reducible assumption) | assumption); obtain ⟨ad167, e167, hx167_0⟩ := Kd.at_string (Kd.R_reads' HO166.out).2.2 t163 p167 q167; obtain rfl : adz_v165 = ad167 := (by injection e167))
                                  refine value_ (w1 := ?_) (v := ?_) (by rfl) rfl ?_ ?_
                                  rotate_left 2
                                  · go_simp
                                    constructor
                                    · rfl
                                    · rfl
                                  clear hx167_0
                                  refine hK.out _ _ trivial (fun hHeld => ?_)
                                  clear hK K
                                  refine norm_ (a' := ?_) ?_ ?_
                                  rotate_left
                                  · show Act.put _ (some 65) _ = _
                                    simp only [Act.put, List.setIfInBounds_toArray, List.set_cons_zero, List.set_cons_succ, i64_w, i32_w]
                                    rfl
                                  refine pure_ (i := 4) (N := some 66) (v := ?_) (a' := ?_) #[true, true, true, true, true, true, true, true, true, true, true, false, false, false, false] rfl rfl (any_of HT_.out (by kernel_rfl)) (fun _ _ _ h => h) (Or.inl ⟨by rfl, ?_⟩) ?_ ?_
                                  rotate_left
                                  · intro w'
                                    go_simp
                                    with_reducible rfl
                                  rotate_left
                                  · simp only [Act.put, List.setIfInBounds_toArray, List.set_cons_zero, List.set_cons_succ, i64_w, i32_w]
                                    rfl
                                  exact norm_ (by first | (simp only [putAll, Act.put, List.setIfInBounds_toArray, List.set_cons_zero, List.set_cons_succ]; done) | (simp only [putAll, Act.put, List.setIfInBounds_toArray, List.set_cons_zero, List.set_cons_succ]; rfl)) (hJ0_3_7_10 (.slice (some adz_v165) y164.length co37, adz_v165, .slice (some adz_v169) y168.length co38, adz_v169) _ ⟨(by (with_reducible repeat (first | apply Kd.R_alloc | apply Kd.R_drewN | apply Kd.R_drew)); exact HO166.out), (by (with_reducible repeat (first | apply Kd.R_alloc | apply Kd.R_drewN | apply Kd.R_drew)); exact HO170.out), ⟨_, rfl⟩, ⟨_, rfl⟩, (by repeat (first | (with_reducible first | exact HB.out | apply below_alloc | apply pw_below_drewN | apply below_drew1) | exact HB.out))⟩)
                                · skip
                                  refine goes_ Try.func16 (by kernel_rfl) rfl #[.int .i64 (wrap64 (Int.tdiv a1 3)), .int .i64 (rd y168 t163)] (by rfl) rfl rfl (by (try simp only [List.map_toArray, List.map_cons, List.map_nil]); first | done | rfl | (simp only [List.length_drop, List.length_take]; rfl) | (simp only [ByteArray.size_extract, Nat.min_self]; done) | (simp only [ByteArray.size_extract, Nat.min_self]; rfl)) ?_
                                  with_reducible refine (correctorlaw5_within.calls (wrap64 (Int.tdiv a1 3)) (rd y168 t163) t172 _ A23.out).mono ?_
                                  rintro e w' ⟨rfl, ⟨nd, rfl⟩⟩
                                  refine ⟨_, rfl, ?_⟩
                                  refine hK.out _ _ trivial (fun hHeld => ?_)
                                  clear hK K
                                  refine norm_ (a' := ?_) ?_ ?_
                                  rotate_left
                                  · show Act.put _ (some 73) _ = _
                                    simp only [Act.put, List.setIfInBounds_toArray, List.set_cons_zero, List.set_cons_succ, i64_w, i32_w]
                                    rfl
                                  refine pure_ (i := 12) (N := some 74) (v := ?_) (a' := ?_) #[true, true, true, false, false, true, true, true, true, true, true, true, true, false, false] rfl rfl (any_of HT_.out (by kernel_rfl)) (fun _ _ _ h => h) (Or.inl ⟨by rfl, ?_⟩) ?_ ?_
                                  rotate_left
                                  · intro w'
                                    go_simp
                                    with_reducible rfl
                                  rotate_left
                                  · simp only [Act.put, List.setIfInBounds_toArray, List.set_cons_zero, List.set_cons_succ, i64_w, i32_w]
                                    rfl
                                  exact norm_ (by first | (simp only [putAll, Act.put, List.setIfInBounds_toArray, List.set_cons_zero, List.set_cons_succ]; done) | (simp only [putAll, Act.put, List.setIfInBounds_toArray, List.set_cons_zero, List.set_cons_succ]; rfl)) (hJ0_7_10_11 (.slice (some adz_v165) y164.length co37, adz_v165, .slice (some adz_v169) y168.length co38, adz_v169) _ ⟨(by (with_reducible repeat (first | apply Kd.R_alloc | apply Kd.R_drewN | apply Kd.R_drew)); exact HO166.out), (by (with_reducible repeat (first | apply Kd.R_alloc | apply Kd.R_drewN | apply Kd.R_drew)); exact HO170.out), ⟨_, rfl⟩, ⟨_, rfl⟩, (by repeat (first | (with_reducible first | exact HB.out | apply below_alloc | apply pw_below_drewN | apply below_drew1) | exact HB.out))⟩)
                            · skip
                              rintro ⟨v165, adz_v165, v169, adz_v169⟩ w36 ⟨h0_, h1_, h2_, h3_, h4_⟩
                              have n0_ : Aside0 (Kd.R Kd.string 9 w36 w.heap.size (fun _ => True) v165 y164) := ⟨h0_⟩
                              have n1_ : Aside0 (Kd.R (Kd.int .i64) 3 w36 w.heap.size (fun _ => True) v169 y168) := ⟨h1_⟩
                              have n2_ : Aside0 (∃ c_, (v165 : Value) = .slice (some adz_v165) y164.length c_) := ⟨h2_⟩
                              have n3_ : Aside0 (∃ c_, (v169 : Value) = .slice (some adz_v169) y168.length c_) := ⟨h3_⟩
                              have n4_ : Aside0 (Below w.heap.size w w36) := ⟨h4_⟩
                              clear HB
                              clear h0_ h1_ h2_ h3_ h4_
                              have HO166 := n0_
                              have HO170 := n1_
                              have HA_HO166 := n2_
                              have HA_HO170 := n3_
                              have HB := n4_
                              clear n0_ n1_ n2_ n3_ n4_
                              have hHeld := trivial
                              obtain ⟨co37, eo37⟩ := HA_HO166.out
                              clear HA_HO166
                              subst eo37
                              obtain ⟨co38, eo38⟩ := HA_HO170.out
                              clear HA_HO170
                              subst eo38
                              refine norm_ (a' := ?_) ?_ ?_
                              rotate_left
                              · simp only [putAll, Act.put, List.setIfInBounds_toArray, List.set_cons_zero, List.set_cons_succ]
                                rfl
                              refine one_ (i := 10) (N := some 72) #[true, true, true, true, true, true, true, true, true, true, true, false, false, false, false] rfl rfl (one_of HT_.out (by kernel_rfl)) (by decide) (fun K hK => ?_)
                              (have p171 : 0 ≤ (t163 : Int) := of_decide_eq_true (by first | (with_reducible assumption) | assumption); have q171 : t163 < (y168.length : Int) := of_decide_eq_true (by first | (with_reducible assumption) | assumption); obtain ⟨ad171, e171, hx171_0⟩ := Kd.at_int (Kd.R_reads' HO170.out).2.2 t163 p171 q171; obtain rfl : adz_v169 = ad171 := (by injection e171))
                              refine value_ (w1 := ?_) (v := ?_) (by rfl) rfl ?_ ?_
                              rotate_left 2
                              · go_simp
                                constructor
                                · rfl
                                · rfl
                              clear hx171_0
                              refine hK.out _ _ trivial (fun hHeld => ?_)
                              clear hK K
                              refine norm_ (a' := ?_) ?_ ?_
                              rotate_left
                              · show Act.put _ (some 72) _ = _
                                simp only [Act.put, List.setIfInBounds_toArray, List.set_cons_zero, List.set_cons_succ, i64_w, i32_w]
                                rfl
                              exact norm_ (by first | (simp only [putAll, Act.put, List.setIfInBounds_toArray, List.set_cons_zero, List.set_cons_succ]; done) | (simp only [putAll, Act.put, List.setIfInBounds_toArray, List.set_cons_zero, List.set_cons_succ]; rfl)) (hJ0_3_7_10 (.slice (some adz_v165) y164.length co37, adz_v165, .slice (some adz_v169) y168.length co38, adz_v169) _ ⟨(by (with_reducible repeat (first | apply Kd.R_alloc | apply Kd.R_drewN | apply Kd.R_drew)); exact HO166.out), (by (with_reducible repeat (first | apply Kd.R_alloc | apply Kd.R_drewN | apply Kd.R_drew)); exact HO170.out), ⟨_, rfl⟩, ⟨_, rfl⟩, (by repeat (first | (with_reducible first | exact HB.out | apply below_alloc | apply pw_below_drewN | apply below_drew1) | exact HB.out))⟩)
                          · skip
                            rintro ⟨v165, adz_v165, v169, adz_v169⟩ w36 ⟨h0_, h1_, h2_, h3_, h4_⟩
                            have n0_ : Aside0 (Kd.R Kd.string 9 w36 w.heap.size (fun _ => True) v165 y164) := ⟨h0_⟩
                            have n1_ : Aside0 (Kd.R (Kd.int .i64) 3 w36 w.heap.size (fun _ => True) v169 y168) := ⟨h1_⟩
                            have n2_ : Aside0 (∃ c_, (v165 : Value) = .slice (some adz_v165) y164.length c_) := ⟨h2_⟩
                            have n3_ : Aside0 (∃ c_, (v169 : Value) = .slice (some adz_v169) y168.length c_) := ⟨h3_⟩
                            have n4_ : Aside0 (Below w.heap.size w w36) := ⟨h4_⟩
                            clear HB
                            clear h0_ h1_ h2_ h3_ h4_
                            have HO166 := n0_
                            have HO170 := n1_
                            have HA_HO166 := n2_
                            have HA_HO170 := n3_
                            have HB := n4_
                            clear n0_ n1_ n2_ n3_ n4_
                            have hHeld := trivial
                            obtain ⟨co37, eo37⟩ := HA_HO166.out
                            clear HA_HO166
                            subst eo37
                            obtain ⟨co38, eo38⟩ := HA_HO170.out
                            clear HA_HO170
                            subst eo38
                            refine norm_ (a' := ?_) ?_ ?_
                            rotate_left
                            · simp only [putAll, Act.put, List.setIfInBounds_toArray, List.set_cons_zero, List.set_cons_succ]
                              rfl
                            refine one_ (i := 3) (N := some 65) #[true, true, true, true, false, true, true, true, true, true, true, true, true, false, false] rfl rfl (one_of HT_.out (by kernel_rfl)) (by decide) (fun K hK => ?_)
                            (have p167 : 0 ≤ (t163 : Int) := of_decide_eq_true (by first | (with_reducible assumption) | assumption); have q167 : t163 < (y164.length : Int) := of_decide_eq_true (by first | (with_reducible assumption) | assumption); obtain ⟨ad167, e167, hx167_0⟩ := Kd.at_string (Kd.R_reads' HO166.out).2.2 t163 p167 q167; obtain rfl : adz_v165 = ad167 := (by injection e167))
                            refine value_ (w1 := ?_) (v := ?_) (by rfl) rfl ?_ ?_
                            rotate_left 2
                            · go_simp
                              constructor
                              · rfl
                              · rfl
                            clear hx167_0
                            refine hK.out _ _ trivial (fun hHeld => ?_)
                            clear hK K
                            refine norm_ (a' := ?_) ?_ ?_
                            rotate_left
                            · show Act.put _ (some 65) _ = _
                              simp only [Act.put, List.setIfInBounds_toArray, List.set_cons_zero, List.set_cons_succ, i64_w, i32_w]
                              rfl
                            refine pure_ (i := 4) (N := some 66) (v := ?_) (a' := ?_) #[true, true, true, true, true, true, true, true, true, true, true, true, true, false, false] rfl rfl (any_of HT_.out (by kernel_rfl)) (fun _ _ _ h => h) (Or.inl ⟨by rfl, ?_⟩) ?_ ?_
                            rotate_left
                            · intro w'
                              go_simp
                              with_reducible rfl
                            rotate_left
                            · simp only [Act.put, List.setIfInBounds_toArray, List.set_cons_zero, List.set_cons_succ, i64_w, i32_w]
                              rfl
                            exact norm_ (by first | (simp only [putAll, Act.put, List.setIfInBounds_toArray, List.set_cons_zero, List.set_cons_succ]; done) | (simp only [putAll, Act.put, List.setIfInBounds_toArray, List.set_cons_zero, List.set_cons_succ]; rfl)) (hJ0_3_7_10_11 (.slice (some adz_v165) y164.length co37, adz_v165, .slice (some adz_v169) y168.length co38, adz_v169) _ ⟨(by (with_reducible repeat (first | apply Kd.R_alloc | apply Kd.R_drewN | apply Kd.R_drew)); exact HO166.out), (by (with_reducible repeat (first | apply Kd.R_alloc | apply Kd.R_drewN | apply Kd.R_drew)); exact HO170.out), ⟨_, rfl⟩, ⟨_, rfl⟩, (by repeat (first | (with_reducible first | exact HB.out | apply below_alloc | apply pw_below_drewN | apply below_drew1) | exact HB.out))⟩)
                        · skip
                          rintro ⟨v165, adz_v165, v169, adz_v169⟩ w36 ⟨h0_, h1_, h2_, h3_, h4_⟩
                          have n0_ : Aside0 (Kd.R Kd.string 9 w36 w.heap.size (fun _ => True) v165 y164) := ⟨h0_⟩
                          have n1_ : Aside0 (Kd.R (Kd.int .i64) 3 w36 w.heap.size (fun _ => True) v169 y168) := ⟨h1_⟩
                          have n2_ : Aside0 (∃ c_, (v165 : Value) = .slice (some adz_v165) y164.length c_) := ⟨h2_⟩
                          have n3_ : Aside0 (∃ c_, (v169 : Value) = .slice (some adz_v169) y168.length c_) := ⟨h3_⟩
                          have n4_ : Aside0 (Below w.heap.size w w36) := ⟨h4_⟩
                          clear HB
                          clear h0_ h1_ h2_ h3_ h4_
                          have HO166 := n0_
                          have HO170 := n1_
                          have HA_HO166 := n2_
                          have HA_HO170 := n3_
                          have HB := n4_
                          clear n0_ n1_ n2_ n3_ n4_
                          have hHeld := trivial
                          obtain ⟨co37, eo37⟩ := HA_HO166.out
                          clear HA_HO166
                          subst eo37
                          obtain ⟨co38, eo38⟩ := HA_HO170.out
                          clear HA_HO170
                          subst eo38
                          refine norm_ (a' := ?_) ?_ ?_
                          rotate_left
                          · simp only [putAll, Act.put, List.setIfInBounds_toArray, List.set_cons_zero, List.set_cons_succ]
                            rfl
                          refine one_ (i := 11) (N := some 73) #[true, true, true, true, true, true, true, true, true, true, true, true, false, false, false] rfl rfl (one_of HT_.out (by kernel_rfl)) (by decide) (fun K hK => ?_)
                          refine goes_ Try.func16 (by kernel_rfl) rfl #[.int .i64 (wrap64 (Int.tdiv a1 3)), .int .i64 (rd y168 t163)] (by rfl) rfl rfl (by (try simp only [List.map_toArray, List.map_cons, List.map_nil]); first | done | rfl | (simp only [List.length_drop, List.length_take]; rfl) | (simp only [ByteArray.size_extract, Nat.min_self]; done) | (simp only [ByteArray.size_extract, Nat.min_self]; rfl)) ?_
                          with_reducible refine (correctorlaw5_within.calls (wrap64 (Int.tdiv a1 3)) (rd y168 t163) t172 _ A23.out).mono ?_
                          rintro e w' ⟨rfl, ⟨nd, rfl⟩⟩
                          refine ⟨_, rfl, ?_⟩
                          refine hK.out _ _ trivial (fun hHeld => ?_)
                          clear hK K
                          refine norm_ (a' := ?_) ?_ ?_
                          rotate_left
                          · show Act.put _ (some 73) _ = _
                            simp only [Act.put, List.setIfInBounds_toArray, List.set_cons_zero, List.set_cons_succ, i64_w, i32_w]
                            rfl
                          refine pure_ (i := 12) (N := some 74) (v := ?_) (a' := ?_) #[true, true, true, true, true, true, true, true, true, true, true, true, true, false, false] rfl rfl (any_of HT_.out (by kernel_rfl)) (fun _ _ _ h => h) (Or.inl ⟨by rfl, ?_⟩) ?_ ?_
                          rotate_left
                          · intro w'
                            go_simp
                            with_reducible rfl
                          rotate_left
                          · simp only [Act.put, List.setIfInBounds_toArray, List.set_cons_zero, List.set_cons_succ, i64_w, i32_w]
                            rfl
                          exact norm_ (by first | (simp only [putAll, Act.put, List.setIfInBounds_toArray, List.set_cons_zero, List.set_cons_succ]; done) | (simp only [putAll, Act.put, List.setIfInBounds_toArray, List.set_cons_zero, List.set_cons_succ]; rfl)) (hJ0_3_7_10_11 (.slice (some adz_v165) y164.length co37, adz_v165, .slice (some adz_v169) y168.length co38, adz_v169) _ ⟨(by (with_reducible repeat (first | apply Kd.R_alloc | apply Kd.R_drewN | apply Kd.R_drew)); exact HO166.out), (by (with_reducible repeat (first | apply Kd.R_alloc | apply Kd.R_drewN | apply Kd.R_drew)); exact HO170.out), ⟨_, rfl⟩, ⟨_, rfl⟩, (by repeat (first | (with_reducible first | exact HB.out | apply below_alloc | apply pw_below_drewN | apply below_drew1) | exact HB.out))⟩)
                      rintro ⟨v165, adz_v165, v169, adz_v169⟩ w36 ⟨h0_, h1_, h2_, h3_, h4_⟩
                      have n0_ : Aside0 (Kd.R Kd.string 9 w36 w.heap.size (fun _ => True) v165 y164) := ⟨h0_⟩
                      have n1_ : Aside0 (Kd.R (Kd.int .i64) 3 w36 w.heap.size (fun _ => True) v169 y168) := ⟨h1_⟩
                      have n2_ : Aside0 (∃ c_, (v165 : Value) = .slice (some adz_v165) y164.length c_) := ⟨h2_⟩
                      have n3_ : Aside0 (∃ c_, (v169 : Value) = .slice (some adz_v169) y168.length c_) := ⟨h3_⟩
                      have n4_ : Aside0 (Below w.heap.size w w36) := ⟨h4_⟩
                      clear HB
                      clear h0_ h1_ h2_ h3_ h4_
                      have HO166 := n0_
                      have HO170 := n1_
                      have HA_HO166 := n2_
                      have HA_HO170 := n3_
                      have HB := n4_
                      clear n0_ n1_ n2_ n3_ n4_
                      have hHeld := trivial
                      obtain ⟨co37, eo37⟩ := HA_HO166.out
                      clear HA_HO166
                      subst eo37
                      obtain ⟨co38, eo38⟩ := HA_HO170.out
                      clear HA_HO170
                      subst eo38
                      refine norm_ (a' := ?_) ?_ ?_
                      rotate_left
                      · simp only [putAll, Act.put, List.setIfInBounds_toArray, List.set_cons_zero, List.set_cons_succ]
                        rfl
                      refine pure_ (i := 13) (N := some 75) (v := ?_) (a' := ?_) #[true, true, true, true, true, true, true, true, true, true, true, true, true, true, false] rfl rfl (any_of HT_.out (by kernel_rfl)) (fun _ _ _ h => h) (Or.inl ⟨by rfl, ?_⟩) ?_ ?_
                      rotate_left
                      · intro w'
                        go_simp
                        with_reducible rfl
                      rotate_left
                      · simp only [Act.put, List.setIfInBounds_toArray, List.set_cons_zero, List.set_cons_succ, i64_w, i32_w]
                        rfl
                      refine pure_ (i := 14) (N := some 7) (v := ?_) (a' := ?_) #[true, true, true, true, true, true, true, true, true, true, true, true, true, true, true] rfl rfl (any_of HT_.out (by kernel_rfl)) (fun _ _ _ h => h) (Or.inl ⟨by rfl, ?_⟩) ?_ ?_
                      rotate_left
                      · intro w'
                        go_simp
                        with_reducible rfl
                      rotate_left
                      · simp only [Act.put, List.setIfInBounds_toArray, List.set_cons_zero, List.set_cons_succ, i64_w, i32_w]
                        rfl
                      refine done_ (done_of HT_.out (by kernel_rfl)) ?_
                      go_upto_region 7 with (first | ((with_reducible refine gate_callee (f := 14) rfl ?_); refine goesL_ (some 78) rfl rfl Try.func14 (by kernel_rfl) rfl #[.string (((⟨#[92]⟩ : ByteArray) ++ (rdOf ByteArray.empty y164 t163)) ++ ((⟨#[48, 48, 48, 48, 48, 48, 48]⟩ : ByteArray).extract 0 (t172 : Int).toNat))] rfl (by (try simp only [List.map_toArray, List.map_cons, List.map_nil]); first | done | rfl | (simp only [List.length_drop, List.length_take]; rfl) | (simp only [ByteArray.size_extract, Nat.min_self]; done) | (simp only [ByteArray.size_extract, Nat.min_self]; rfl)) ?_; (with_reducible refine (chars_Escape.calls kj4 (((⟨#[92]⟩ : ByteArray) ++ (rdOf ByteArray.empty y164 t163)) ++ ((⟨#[48, 48, 48, 48, 48, 48, 48]⟩ : ByteArray).extract 0 (t172 : Int).toNat)) t173 t174 _ A27.out).mono ?_); rintro e w39 ⟨rfl, hb⟩; refine ⟨_, rfl, ?_⟩; have n0_ := Aside0.mk (Kd.R_below (by (with_reducible repeat (first | apply Kd.R_alloc | apply Kd.R_drewN | apply Kd.R_drew)); exact HO166.out) hb); have n1_ := Aside0.mk (Kd.R_below (by (with_reducible repeat (first | apply Kd.R_alloc | apply Kd.R_drewN | apply Kd.R_drew)); exact HO170.out) hb); have n2_ := Aside0.mk (below_step (by repeat (first | (with_reducible first | exact HB.out | apply below_alloc | apply pw_below_drewN | apply below_drew1) | exact HB.out)) hb); clear HO166; clear HO170; clear HB; have HO166 := n0_; have HO170 := n1_; have HB := n2_; clear n0_ n1_ n2_; (try clear hb); (try clear hb2); (try clear hk); (try clear hi)))
                      (try simp only [Act.put, List.setIfInBounds_toArray, List.set_cons_zero, List.set_cons_succ])
                      go_cut [86] (fun v86 wc => ∃ (kq : Nat) (x86_27 : Bool), v86 = .bool x86_27 ∧ Aside0 (correctorlaw5_CharsNone.j1 kq a0 x5_4 x86_27 = some r) ∧ Aside0 (kq ≤ kj4) ∧ Aside0 (Below w.heap.size w wc))
                      case first =>
                        have H := HC28.out
                        clear HC28
                        by_cases c40 : t173.toList = ([] : List UInt8)
                        · rw [if_pos c40] at H
                          have c40b0 : (t173.toList == ([] : List UInt8)) = true := beq_iff_eq.mpr c40
                          have c40b1 : (t173.toList != ([] : List UInt8)) = false := bne_eq_false_iff_eq.mpr c40
                          (try (have c40b2 : t173.toList.isEmpty = true := by simpa using c40))
                          clear c40
                          (first | rw [c40b0] | rw [c40b2] | (simp only [i64_w, i32_w]; rw [c40b0]) | skip)
                          have H' := Aside0.mk H
                          clear H
                          go_wp2
                          go_meet
                          case rel => exact ⟨_, ((t174 != 0)), (by first | rfl | (simp; done) | (simp [*]; done)), H', ⟨by have := HJ4.out; first | omega | exact Nat.le_refl _⟩, ⟨by repeat (first | (with_reducible first | exact HB.out | apply below_alloc | apply pw_below_drewN | apply below_drew1) | exact HB.out)⟩⟩
                        · rw [if_neg c40] at H
                          have c40b0 : (t173.toList == ([] : List UInt8)) = false := beq_eq_false_iff_ne.mpr c40
                          have c40b1 : (t173.toList != ([] : List UInt8)) = true := bne_iff_ne.mpr c40
                          (try (have c40b2 : t173.toList.isEmpty = false := by simpa using c40))
                          (first | rw [c40b0] | rw [c40b2] | (simp only [i64_w, i32_w]; rw [c40b0]) | skip)
                          have H' := Aside0.mk H
                          clear H
                          go_wp2
                          go_meet
                          case rel => exact ⟨_, (true), (by first | rfl | (simp; done) | (simp [*]; done)), H', ⟨by have := HJ4.out; first | omega | exact Nat.le_refl _⟩, ⟨by repeat (first | (with_reducible first | exact HB.out | apply below_alloc | apply pw_below_drewN | apply below_drew1) | exact HB.out)⟩⟩
                      case rest =>
                        clear HC28
                        try clear c1
                        try clear p1
                        try clear q1
                        try clear hx1
                        try clear p2
                        try clear c4
                        try clear p6
                        try clear c14
                        try clear c16
                        try clear p16
                        try clear q16
                        try clear hx16
                        try clear p17
                        try clear q17
                        try clear hx17
                        try clear c40
                        try clear c40b0
                        try clear c40b1
                        try clear c40b2
                        try clear hx167_0
                        try clear hx171_0
                        try clear p167
                        try clear p171
                        try clear q167
                        try clear q171
                        obtain ⟨kq, x86_27, rfl, HA, HJ27, HB⟩ := hcut
                        cases kq with
                        | zero => exact absurd HA.out (by simp [correctorlaw5_CharsNone.j1])
                        | succ kj27 =>
                          have H := HA.out
                          clear HA
                          simp only [correctorlaw5_CharsNone.j1] at H
                          by_cases c41 : x86_27 = true
                          · subst c41
                            have H1 : (some false) = some r := by rw [if_pos rfl] at H; exact H
                            clear H
                            have H := H1
                            clear H1
                            obtain rfl := Option.some.inj H
                            go_wp2
                            go_ret
                            exact ⟨by first | rfl | (simp [errW_none, errW_some] <;> rfl) | (simp [*, errW_none, errW_some] <;> rfl), by repeat (first | (with_reducible first | exact HB.out | apply below_alloc | apply pw_below_drewN | apply below_drew1) | exact HB.out)⟩
                          · replace c41 := Bool.eq_false_iff.mpr c41
                            subst c41
                            have H1 : ((some (([a0] : List Int) : List Int)).bind fun y175 => (if 1 + (strOfNums y175).size ≤ 9223372036854775807 then ((chars_Escape.f kj27 ((⟨#[92]⟩ : ByteArray) ++ (strOfNums y175))).bind fun bt178 => (if x5_4 = true then (some true) else (some (bt178.2 == 0)))) else (none))) = some r := by rw [if_neg (show ¬ (false = true) by decide)] at H; exact H
                            clear H
                            have H := H1
                            clear H1
                            obtain ⟨y175, hy175⟩ : ∃ y_ : List Int, y_ = (([a0] : List Int)) := ⟨_, rfl⟩
                            replace H : (if 1 + (strOfNums y175).size ≤ 9223372036854775807 then ((chars_Escape.f kj27 ((⟨#[92]⟩ : ByteArray) ++ (strOfNums y175))).bind fun bt178 => (if x5_4 = true then (some true) else (some (bt178.2 == 0)))) else (none)) = some r := by first | (rw [hy175]; with_reducible exact H) | (have H2_ := (Option.bind_some _ _).symm.trans H; rw [hy175]; with_reducible exact H2_) | (have H2_ := (Option.bind_some _ _).symm.trans H; with_reducible exact H2_) | with_reducible exact H | (rw [hy175]; exact H) | exact H
                            have Ny175 := Aside0.mk hy175
                            clear hy175
                            by_cases c42 : 1 + (strOfNums y175).size ≤ 9223372036854775807
                            · rw [if_pos c42] at H
                              have c42b0 := eq_true c42
                              have c42b1 : decide (1 + (strOfNums y175).size ≤ 9223372036854775807) = true := decide_eq_true c42
                              try have c42b2 : (9223372036854775807 < 1 + (strOfNums y175).size) = False := eq_false (Nat.not_lt.2 c42)
                              (try (have c42w := c42; revert c42; simp [go_sem, *] at c42w; intro c42; have c42v := eq_false (Nat.not_lt.2 c42w)))
                              replace H := Option.bind_eq_some_iff.mp H
                              obtain ⟨⟨t178, t179⟩, A430, H⟩ := H
                              replace H : (if x5_4 = true then (some true) else (some (t179 == 0))) = some r := H
                              have A43 := Aside0.mk A430
                              clear A430
                              by_cases c44 : x5_4 = true
                              · subst c44
                                have H1 : (some true) = some r := by rw [if_pos rfl] at H; exact H
                                clear H
                                have H := H1
                                clear H1
                                obtain rfl := Option.some.inj H
                                go_wp2_with (first | ((with_reducible refine gate_dst (N := 89) rfl ?_); refine Kd.R_lit (Kd.int .u8) _ 5 ?hg (N := 89) ?hd (xs := ([a0] : List Int)) (inner := [.int .u8 a0]) (ok := fun _ => True) (okp := fun _ => True) ?hr ?hp (fun _ hk => hk) trivial (Below.refl _ _) (Nat.le_refl _) (by simp) ?_; (case hd => rfl); (case hg => rfl); (case hr => first | (go_simp; done) | (go_simp; rfl)); (case hp => exact (Reps.one (show Kd.M (Kd.int .u8) _ _ _ a0 [.int .u8 a0] from rfl) (Reps.none _ _))); intro v176 w45 ho46 hb hg_ hnew_; clear hg_ hnew_; (first | rw [← Ny175.out] at ho46 | (simp only [Int.reduceToNat] at ho46; rw [← Ny175.out] at ho46)); have n0_ := Aside0.mk (Kd.R_lower ho46 (below_size (by repeat (first | (with_reducible first | exact HB.out | apply below_alloc | apply pw_below_drewN | apply below_drew1) | exact HB.out)))); have n1_ := Aside0.mk (below_step (by repeat (first | (with_reducible first | exact HB.out | apply below_alloc | apply pw_below_drewN | apply below_drew1) | exact HB.out)) hb); clear HB; have HO177 := n0_; have HB := n1_; clear n0_ n1_; clear hb ho46; have hcv47 := own_string (P := Try.prog) Try.underlying23 Try.underlying5 Try.underlying9 (Kd.own_of_R HO177.out)) | ((with_reducible refine gate_callee (f := 14) rfl ?_); refine goesL_ (some 92) rfl rfl Try.func14 (by kernel_rfl) rfl #[.string ((⟨#[92]⟩ : ByteArray) ++ (strOfNums y175))] rfl (by (try simp only [List.map_toArray, List.map_cons, List.map_nil]); first | done | rfl | (simp only [List.length_drop, List.length_take]; rfl) | (simp only [ByteArray.size_extract, Nat.min_self]; done) | (simp only [ByteArray.size_extract, Nat.min_self]; rfl)) ?_; (with_reducible refine (chars_Escape.calls kj27 ((⟨#[92]⟩ : ByteArray) ++ (strOfNums y175)) t178 t179 _ A43.out).mono ?_); rintro e w48 ⟨rfl, hb⟩; refine ⟨_, rfl, ?_⟩; have n0_ := Aside0.mk (Kd.R_below (by (with_reducible repeat (first | apply Kd.R_alloc | apply Kd.R_drewN | apply Kd.R_drew)); exact HO177.out) hb); have n1_ := Aside0.mk (below_step (by repeat (first | (with_reducible first | exact HB.out | apply below_alloc | apply pw_below_drewN | apply below_drew1) | exact HB.out)) hb); clear HO177; clear HB; have HO177 := n0_; have HB := n1_; clear n0_ n1_; (try clear hb); (try clear hb2); (try clear hk); (try clear hi)))
                                go_ret
                                exact ⟨by first | rfl | (simp [errW_none, errW_some] <;> rfl) | (simp [*, errW_none, errW_some] <;> rfl), by repeat (first | (with_reducible first | exact HB.out | apply below_alloc | apply pw_below_drewN | apply below_drew1) | exact HB.out)⟩
                              · replace c44 := Bool.eq_false_iff.mpr c44
                                subst c44
                                have H1 : (some (t179 == 0)) = some r := by rw [if_neg (show ¬ (false = true) by decide)] at H; exact H
                                clear H
                                have H := H1
                                clear H1
                                obtain rfl := Option.some.inj H
                                go_wp2_with (first | ((with_reducible refine gate_dst (N := 89) rfl ?_); refine Kd.R_lit (Kd.int .u8) _ 5 ?hg (N := 89) ?hd (xs := ([a0] : List Int)) (inner := [.int .u8 a0]) (ok := fun _ => True) (okp := fun _ => True) ?hr ?hp (fun _ hk => hk) trivial (Below.refl _ _) (Nat.le_refl _) (by simp) ?_; (case hd => rfl); (case hg => rfl); (case hr => first | (go_simp; done) | (go_simp; rfl)); (case hp => exact (Reps.one (show Kd.M (Kd.int .u8) _ _ _ a0 [.int .u8 a0] from rfl) (Reps.none _ _))); intro v176 w49 ho50 hb hg_ hnew_; clear hg_ hnew_; (first | rw [← Ny175.out] at ho50 | (simp only [Int.reduceToNat] at ho50; rw [← Ny175.out] at ho50)); have n0_ := Aside0.mk (Kd.R_lower ho50 (below_size (by repeat (first | (with_reducible first | exact HB.out | apply below_alloc | apply pw_below_drewN | apply below_drew1) | exact HB.out)))); have n1_ := Aside0.mk (below_step (by repeat (first | (with_reducible first | exact HB.out | apply below_alloc | apply pw_below_drewN | apply below_drew1) | exact HB.out)) hb); clear HB; have HO177 := n0_; have HB := n1_; clear n0_ n1_; clear hb ho50; have hcv51 := own_string (P := Try.prog) Try.underlying23 Try.underlying5 Try.underlying9 (Kd.own_of_R HO177.out)) | ((with_reducible refine gate_callee (f := 14) rfl ?_); refine goesL_ (some 92) rfl rfl Try.func14 (by kernel_rfl) rfl #[.string ((⟨#[92]⟩ : ByteArray) ++ (strOfNums y175))] rfl (by (try simp only [List.map_toArray, List.map_cons, List.map_nil]); first | done | rfl | (simp only [List.length_drop, List.length_take]; rfl) | (simp only [ByteArray.size_extract, Nat.min_self]; done) | (simp only [ByteArray.size_extract, Nat.min_self]; rfl)) ?_; (with_reducible refine (chars_Escape.calls kj27 ((⟨#[92]⟩ : ByteArray) ++ (strOfNums y175)) t178 t179 _ A43.out).mono ?_); rintro e w52 ⟨rfl, hb⟩; refine ⟨_, rfl, ?_⟩; have n0_ := Aside0.mk (Kd.R_below (by (with_reducible repeat (first | apply Kd.R_alloc | apply Kd.R_drewN | apply Kd.R_drew)); exact HO177.out) hb); have n1_ := Aside0.mk (below_step (by repeat (first | (with_reducible first | exact HB.out | apply below_alloc | apply pw_below_drewN | apply below_drew1) | exact HB.out)) hb); clear HO177; clear HB; have HO177 := n0_; have HB := n1_; clear n0_ n1_; (try clear hb); (try clear hb2); (try clear hk); (try clear hi)))
                                go_ret
                                exact ⟨by first | rfl | (simp [errW_none, errW_some] <;> rfl) | (simp [*, errW_none, errW_some] <;> rfl), by repeat (first | (with_reducible first | exact HB.out | apply below_alloc | apply pw_below_drewN | apply below_drew1) | exact HB.out)⟩
                            · rw [if_neg c42] at H
                              exact absurd H (by simp)
                    · rw [if_neg c26] at H
                      exact absurd H (by simp)
                  · rw [if_neg c25] at H
                    exact absurd H (by simp)
                · rw [if_neg c24] at H
                  exact absurd H (by simp)
              · rw [if_neg c22] at H
                exact absurd H (by simp)
            · rw [if_neg c21] at H
              exact absurd H (by simp)
          · rw [if_neg c20] at H
            exact absurd H (by simp)
        · rw [if_neg c19] at H
          exact absurd H (by simp)
  · replace c4 := Bool.eq_false_iff.mpr c4
    subst c4
    have H1 : (some false) = some r := by rw [if_neg (show ¬ (false = true) by decide)] at H; exact H
    clear H
    have H := H1
    clear H1
    obtain rfl := Option.some.inj H
    go_enter Try.func5, Try.ntmps5
    go_wp2_with (first | ((with_reducible refine gate_callee (f := 13) rfl ?_); refine goesL_ (some 12) rfl rfl Try.func13 (by kernel_rfl) rfl #[] rfl (by (try simp only [List.map_toArray, List.map_cons, List.map_nil]); first | done | rfl | (simp only [List.length_drop, List.length_take]; rfl) | (simp only [ByteArray.size_extract, Nat.min_self]; done) | (simp only [ByteArray.size_extract, Nat.min_self]; rfl)) ?_; (with_reducible refine (correctorlaw5_known.calls k  false _ A3.out).mono ?_); rintro e w53 ⟨rfl, hb⟩; refine ⟨_, rfl, ?_⟩; have n0_ := Aside0.mk (below_step (by repeat (first | (with_reducible first | exact HB.out | apply below_alloc | apply pw_below_drewN | apply below_drew1) | exact HB.out)) hb); clear HB; have HB := n0_; clear n0_; (try clear hb); (try clear hb2); (try clear hk); (try clear hi)))
    go_ret
    exact ⟨by first | rfl | (simp [errW_none, errW_some] <;> rfl) | (simp [*, errW_none, errW_some] <;> rfl), by repeat (first | (with_reducible first | exact HB.out | apply below_alloc | apply pw_below_drewN | apply below_drew1) | exact HB.out)⟩

/-- THE ONE PURE STATEMENT of correctorlaw5_CharsNone: yours. -/
def correctorlaw5_CharsNone.Pure : Prop := ∀ (a0 : Int) (a1 : Int), (Lit.int .u8 a0).wf = true → (Lit.int .i64 a1).wf = true → ∃ k, correctorlaw5_CharsNone.f k a0 a1 = some true
theorem correctorlaw5_CharsNone.walk (P : correctorlaw5_CharsNone.Pure) (a0 : Int) (a1 : Int) (w : World) (w0 : (Lit.int .u8 a0).wf = true) (w1 : (Lit.int .i64 a1).wf = true) :
    Calls Try.prog 5 #[.int .u8 a0, .int .i64 a1] w fun e w' => e = .returned (.bool true) ∧ Below w.heap.size w w' := by
  obtain ⟨k, h⟩ := P a0 a1 w0 w1
  refine (correctorlaw5_CharsNone.calls k a0 a1 true w h).mono ?_
  rintro e w' ⟨rfl, hd⟩
  exact ⟨rfl, hd⟩

end Go.Proofs.Ytpigemgiegbblaa.Q
