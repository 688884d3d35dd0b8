/- Proved here, in the forms of the print's contracts: what each Go function answers, and the rows of the laws over it; by a program and by hand. -/
import Derived.Test.YtpigemgiegbblaaQ0
import Derived.Test.YtpigemgiegbblaaQchars
import Derived.Test.YtpigemgiegbblaaQcorrectorlaw5
import Derived.Test.YtpigemgiegbblaaQcorrectorref5
namespace Go.Proofs.Ytpigemgiegbblaa.Q
open Go.RowKit Go.Proofs.YtpigemgiegbblaaW.PrintWords Go.Proofs.YtpigemgiegbblaaW.PrintLast Go.Proofs.YtpigemgiegbblaaW.PrintMore
attribute [local go_sem] max2_int min2_int max_two min_two max_three min_three max_four min_four   -- for this text's walks alone
set_option linter.unusedVariables false
set_option linter.unusedSimpArgs false

/-! ### correctorlaw5_CharsClasses: function 7 -/
def correctorlaw5_CharsClasses.l0 : Nat → Int → Int → Option (Bool)
  | 0, _, _ => none
  | k + 1, x0, x3 => if x3 < 256 then ((chars_Blank.f ((x3) % 256)).bind fun t195 => ((correctorref5_Blank.f ((x3) % 256)).bind fun t196 => (if (t195 != t196) = true then (some false) else ((chars_Name.f ((x3) % 256)).bind fun t197 => ((correctorref5_Name.f ((x3) % 256)).bind fun t198 => (if (t197 != t198) = true then (some false) else ((chars_Flow.f k ((x3) % 256)).bind fun t199 => ((correctorref5_Flow.f ((x3) % 256)).bind fun t200 => (if (t199 != t200) = true then (some false) else (correctorlaw5_CharsClasses.l0 k x0 (wrap64 (x3 + 1)))))))))))) else ((chars_Blank.f x0).bind fun t201 => (if t201 = true then ((chars_Name.f x0).bind fun t202 => (if t202 = true then (some false) else (some (!false)))) else ((chars_Name.f x0).bind fun t203 => (if t203 = true then ((chars_Flow.f k x0).bind fun t204 => (some (!t204))) else (some (!false))))))
def correctorlaw5_CharsClasses.f (k : Nat) (a0 : Int) : Option (Bool) := (correctorlaw5_known.f k).bind fun t194 => (if t194 = true then (correctorlaw5_CharsClasses.l0 k a0 0) else (some false))
theorem correctorlaw5_CharsClasses.mono_l : ∀ k, (∀ y0 y1, LeO (correctorlaw5_CharsClasses.l0 k y0 y1) (correctorlaw5_CharsClasses.l0 (k + 1) y0 y1))
  | 0 => fun _ _ r h => by simp [correctorlaw5_CharsClasses.l0] at h
  | k + 1 => by
    have ih0 := correctorlaw5_CharsClasses.mono_l k
    · intro y0 y1
      unfold correctorlaw5_CharsClasses.l0
      repeat' first
      | (with_reducible exact ih0 _ _)
      | (with_reducible exact chars_Flow.mono _ _)
      | (with_reducible exact correctorlaw5_known.mono _)
      | (with_reducible exact LeO.refl _)
      | (with_reducible exact LeO.none _)
      | (with_reducible refine LeO.ite ?_ ?_)
      | (with_reducible refine LeO.bind ?_ (fun _ => ?_))
      | exact ih0 _ _
      | exact chars_Flow.mono _ _
      | exact correctorlaw5_known.mono _
      | exact LeO.none _
      | refine LeO.ite ?_ ?_
      | refine LeO.bind ?_ (fun _ => ?_)
theorem correctorlaw5_CharsClasses.mono : ∀ a0 k, LeO (correctorlaw5_CharsClasses.f k a0) (correctorlaw5_CharsClasses.f (k + 1) a0) := by
  intro a0 k
  have ih0 := correctorlaw5_CharsClasses.mono_l k
  unfold correctorlaw5_CharsClasses.f
  repeat' first
      | (with_reducible exact ih0 _ _)
      | (with_reducible exact chars_Flow.mono _ _)
      | (with_reducible exact correctorlaw5_known.mono _)
      | (with_reducible exact LeO.refl _)
      | (with_reducible exact LeO.none _)
      | (with_reducible refine LeO.ite ?_ ?_)
      | (with_reducible refine LeO.bind ?_ (fun _ => ?_))
      | exact ih0 _ _
      | exact chars_Flow.mono _ _
      | exact correctorlaw5_known.mono _
      | exact LeO.none _
      | refine LeO.ite ?_ ?_
      | refine LeO.bind ?_ (fun _ => ?_)
set_option maxHeartbeats 8000000 in
set_option maxRecDepth 100000 in
theorem correctorlaw5_CharsClasses.calls (k : Nat) (a0 : Int) (r : Bool) (w : World) (h : correctorlaw5_CharsClasses.f k a0 = some r) :
    Calls Try.prog 7 #[.int .u8 a0] w fun e w' => e = .returned (.bool r) ∧ Below w.heap.size w w' := by
  have HB := Aside0.mk (Below.refl w.heap.size w)
  have H : ((correctorlaw5_known.f k).bind fun t194 => (if t194 = true then (correctorlaw5_CharsClasses.l0 k a0 0) else (some false))) = some r := h
  clear h
  replace H := Option.bind_eq_some_iff.mp H
  obtain ⟨t194, A20, H⟩ := H
  replace H : (if t194 = true then (correctorlaw5_CharsClasses.l0 k a0 0) else (some false)) = some r := H
  have A2 := Aside0.mk A20
  clear A20
  by_cases c3 : t194 = true
  · subst c3
    have H1 : (correctorlaw5_CharsClasses.l0 k a0 0) = some r := by rw [if_pos rfl] at H; exact H
    clear H
    have H := H1
    clear H1
    have H' := Aside0.mk H
    clear H
    go_enter Try.func7, Try.ntmps7
    go_wp2_with (first | ((with_reducible refine gate_callee (f := 13) rfl ?_); refine goesL_ (some 4) rfl rfl Try.func13 (by kernel_rfl) rfl #[] rfl (by (try simp only [List.map_toArray, List.map_cons, List.map_nil]); first | done | rfl | (simp only [List.length_drop, List.length_take]; rfl)) ?_; (with_reducible refine (correctorlaw5_known.calls k  true _ A2.out).mono ?_); rintro e w4 ⟨rfl, hb⟩; refine ⟨_, rfl, ?_⟩; have n0_ := Aside0.mk (below_step (by repeat (first | (with_reducible first | exact HB.out | apply below_alloc | apply pw_below_drewN | apply below_drew1) | exact HB.out)) hb); clear HB; have HB := n0_; clear n0_; (try clear hb); (try clear hb2); (try clear hk); (try clear hi)))
    go_loopg [3] k (fun kq v3 w' => ∃ (x3_1 : Int), v3 = .int .i64 x3_1 ∧ Aside0 (correctorlaw5_CharsClasses.l0 kq a0 x3_1 = some r) ∧ Aside0 (kq ≤ k) ∧ Aside0 (Below w.heap.size w w'))
    case atStart => exact ⟨(0), (by first | rfl | (simp; done) | (simp [*]; done)), H', ⟨Nat.le_refl _⟩, ⟨by repeat (first | (with_reducible first | exact HB.out | apply below_alloc | apply pw_below_drewN | apply below_drew1) | exact HB.out)⟩⟩
    case round =>
      clear H'
      try clear c1
      try clear p2
      try clear c3
      obtain ⟨x3_1, rfl, HA, HK1, HB⟩ := hrel
      cases gk with
      | zero => exact absurd HA.out (by simp [correctorlaw5_CharsClasses.l0])
      | succ k1 =>
        have H := HA.out
        clear HA
        simp only [correctorlaw5_CharsClasses.l0] at H
        by_cases c5 : x3_1 < 256
        · rw [if_pos c5] at H
          have c5b0 : decide (x3_1 < 256) = true := decide_eq_true c5
          clear c5
          replace H := Option.bind_eq_some_iff.mp H
          obtain ⟨t195, A60, H⟩ := H
          replace H : ((correctorref5_Blank.f ((x3_1) % 256)).bind fun t196 => (if (t195 != t196) = true then (some false) else ((chars_Name.f ((x3_1) % 256)).bind fun t197 => ((correctorref5_Name.f ((x3_1) % 256)).bind fun t198 => (if (t197 != t198) = true then (some false) else ((chars_Flow.f k1 ((x3_1) % 256)).bind fun t199 => ((correctorref5_Flow.f ((x3_1) % 256)).bind fun t200 => (if (t199 != t200) = true then (some false) else (correctorlaw5_CharsClasses.l0 k1 a0 (wrap64 (x3_1 + 1))))))))))) = some r := H
          have A6 := Aside0.mk A60
          clear A60
          replace H := Option.bind_eq_some_iff.mp H
          obtain ⟨t196, A70, H⟩ := H
          replace H : (if (t195 != t196) = true then (some false) else ((chars_Name.f ((x3_1) % 256)).bind fun t197 => ((correctorref5_Name.f ((x3_1) % 256)).bind fun t198 => (if (t197 != t198) = true then (some false) else ((chars_Flow.f k1 ((x3_1) % 256)).bind fun t199 => ((correctorref5_Flow.f ((x3_1) % 256)).bind fun t200 => (if (t199 != t200) = true then (some false) else (correctorlaw5_CharsClasses.l0 k1 a0 (wrap64 (x3_1 + 1)))))))))) = some r := H
          have A7 := Aside0.mk A70
          clear A70
          by_cases c8 : (t195 != t196) = true
          · rw [if_pos c8] at H
            have c8b0 : (t195 != t196) = true := c8
            (try (have c8b1 : decide (t195 = t196) = false := by simpa using c8))
            (try (have c8b2 : (t195 == t196) = false := by simpa using c8))
            (try (have c8b3 : ¬ (t195 = t196) := by simpa using c8))
            clear c8
            obtain rfl := Option.some.inj H
            go_wp2_with (first | ((with_reducible refine gate_callee (f := 17) rfl ?_); refine goesL_ (some 12) rfl rfl Try.func17 (by kernel_rfl) rfl #[.int .u8 ((x3_1) % 256)] rfl (by (try simp only [List.map_toArray, List.map_cons, List.map_nil]); first | done | rfl | (simp only [List.length_drop, List.length_take]; rfl)) ?_; (with_reducible refine (chars_Blank.calls ((x3_1) % 256) t195 _ A6.out).mono ?_); rintro e w' ⟨rfl, ⟨nd, rfl⟩⟩; refine ⟨_, rfl, ?_⟩) | ((with_reducible refine gate_callee (f := 18) rfl ?_); refine goesL_ (some 15) rfl rfl Try.func18 (by kernel_rfl) rfl #[.int .u8 ((x3_1) % 256)] rfl (by (try simp only [List.map_toArray, List.map_cons, List.map_nil]); first | done | rfl | (simp only [List.length_drop, List.length_take]; rfl)) ?_; (with_reducible refine (correctorref5_Blank.calls ((x3_1) % 256) t196 _ A7.out).mono ?_); rintro e w' ⟨rfl, ⟨nd, rfl⟩⟩; refine ⟨_, rfl, ?_⟩))
            go_ret
            exact ⟨by first | rfl | (simp [errW_none, errW_some] <;> rfl) | (simp [*, errW_none, errW_some] <;> rfl), by repeat (first | (with_reducible first | exact HB.out | apply below_alloc | apply pw_below_drewN | apply below_drew1) | exact HB.out)⟩
          · rw [if_neg c8] at H
            have c8b0 : (t195 != t196) = false := by simpa using c8
            (try (have c8b1 : decide (t195 = t196) = true := by simpa using c8))
            (try (have c8b2 : (t195 == t196) = true := by simpa using c8))
            clear c8
            replace H := Option.bind_eq_some_iff.mp H
            obtain ⟨t197, A90, H⟩ := H
            replace H : ((correctorref5_Name.f ((x3_1) % 256)).bind fun t198 => (if (t197 != t198) = true then (some false) else ((chars_Flow.f k1 ((x3_1) % 256)).bind fun t199 => ((correctorref5_Flow.f ((x3_1) % 256)).bind fun t200 => (if (t199 != t200) = true then (some false) else (correctorlaw5_CharsClasses.l0 k1 a0 (wrap64 (x3_1 + 1)))))))) = some r := H
            have A9 := Aside0.mk A90
            clear A90
            replace H := Option.bind_eq_some_iff.mp H
            obtain ⟨t198, A100, H⟩ := H
            replace H : (if (t197 != t198) = true then (some false) else ((chars_Flow.f k1 ((x3_1) % 256)).bind fun t199 => ((correctorref5_Flow.f ((x3_1) % 256)).bind fun t200 => (if (t199 != t200) = true then (some false) else (correctorlaw5_CharsClasses.l0 k1 a0 (wrap64 (x3_1 + 1))))))) = some r := H
            have A10 := Aside0.mk A100
            clear A100
            by_cases c11 : (t197 != t198) = true
            · rw [if_pos c11] at H
              have c11b0 : (t197 != t198) = true := c11
              (try (have c11b1 : decide (t197 = t198) = false := by simpa using c11))
              (try (have c11b2 : (t197 == t198) = false := by simpa using c11))
              (try (have c11b3 : ¬ (t197 = t198) := by simpa using c11))
              clear c11
              obtain rfl := Option.some.inj H
              go_wp2_with (first | ((with_reducible refine gate_callee (f := 17) rfl ?_); refine goesL_ (some 12) rfl rfl Try.func17 (by kernel_rfl) rfl #[.int .u8 ((x3_1) % 256)] rfl (by (try simp only [List.map_toArray, List.map_cons, List.map_nil]); first | done | rfl | (simp only [List.length_drop, List.length_take]; rfl)) ?_; (with_reducible refine (chars_Blank.calls ((x3_1) % 256) t195 _ A6.out).mono ?_); rintro e w' ⟨rfl, ⟨nd, rfl⟩⟩; refine ⟨_, rfl, ?_⟩) | ((with_reducible refine gate_callee (f := 18) rfl ?_); refine goesL_ (some 15) rfl rfl Try.func18 (by kernel_rfl) rfl #[.int .u8 ((x3_1) % 256)] rfl (by (try simp only [List.map_toArray, List.map_cons, List.map_nil]); first | done | rfl | (simp only [List.length_drop, List.length_take]; rfl)) ?_; (with_reducible refine (correctorref5_Blank.calls ((x3_1) % 256) t196 _ A7.out).mono ?_); rintro e w' ⟨rfl, ⟨nd, rfl⟩⟩; refine ⟨_, rfl, ?_⟩) | (go_at_call 19; (with_reducible refine (chars_Name.calls ((x3_1) % 256) t197 _ A9.out).mono ?_); rintro e w' ⟨rfl, ⟨nd, rfl⟩⟩) | (go_at_call 20; (with_reducible refine (correctorref5_Name.calls ((x3_1) % 256) t198 _ A10.out).mono ?_); rintro e w' ⟨rfl, ⟨nd, rfl⟩⟩))
              go_ret
              exact ⟨by first | rfl | (simp [errW_none, errW_some] <;> rfl) | (simp [*, errW_none, errW_some] <;> rfl), by repeat (first | (with_reducible first | exact HB.out | apply below_alloc | apply pw_below_drewN | apply below_drew1) | exact HB.out)⟩
            · rw [if_neg c11] at H
              have c11b0 : (t197 != t198) = false := by simpa using c11
              (try (have c11b1 : decide (t197 = t198) = true := by simpa using c11))
              (try (have c11b2 : (t197 == t198) = true := by simpa using c11))
              clear c11
              replace H := Option.bind_eq_some_iff.mp H
              obtain ⟨t199, A120, H⟩ := H
              replace H : ((correctorref5_Flow.f ((x3_1) % 256)).bind fun t200 => (if (t199 != t200) = true then (some false) else (correctorlaw5_CharsClasses.l0 k1 a0 (wrap64 (x3_1 + 1))))) = some r := H
              have A12 := Aside0.mk A120
              clear A120
              replace H := Option.bind_eq_some_iff.mp H
              obtain ⟨t200, A130, H⟩ := H
              replace H : (if (t199 != t200) = true then (some false) else (correctorlaw5_CharsClasses.l0 k1 a0 (wrap64 (x3_1 + 1)))) = some r := H
              have A13 := Aside0.mk A130
              clear A130
              by_cases c14 : (t199 != t200) = true
              · rw [if_pos c14] at H
                have c14b0 : (t199 != t200) = true := c14
                (try (have c14b1 : decide (t199 = t200) = false := by simpa using c14))
                (try (have c14b2 : (t199 == t200) = false := by simpa using c14))
                (try (have c14b3 : ¬ (t199 = t200) := by simpa using c14))
                clear c14
                obtain rfl := Option.some.inj H
                go_wp2_with (first | ((with_reducible refine gate_callee (f := 17) rfl ?_); refine goesL_ (some 12) rfl rfl Try.func17 (by kernel_rfl) rfl #[.int .u8 ((x3_1) % 256)] rfl (by (try simp only [List.map_toArray, List.map_cons, List.map_nil]); first | done | rfl | (simp only [List.length_drop, List.length_take]; rfl)) ?_; (with_reducible refine (chars_Blank.calls ((x3_1) % 256) t195 _ A6.out).mono ?_); rintro e w' ⟨rfl, ⟨nd, rfl⟩⟩; refine ⟨_, rfl, ?_⟩) | ((with_reducible refine gate_callee (f := 18) rfl ?_); refine goesL_ (some 15) rfl rfl Try.func18 (by kernel_rfl) rfl #[.int .u8 ((x3_1) % 256)] rfl (by (try simp only [List.map_toArray, List.map_cons, List.map_nil]); first | done | rfl | (simp only [List.length_drop, List.length_take]; rfl)) ?_; (with_reducible refine (correctorref5_Blank.calls ((x3_1) % 256) t196 _ A7.out).mono ?_); rintro e w' ⟨rfl, ⟨nd, rfl⟩⟩; refine ⟨_, rfl, ?_⟩) | (go_at_call 19; (with_reducible refine (chars_Name.calls ((x3_1) % 256) t197 _ A9.out).mono ?_); rintro e w' ⟨rfl, ⟨nd, rfl⟩⟩) | (go_at_call 20; (with_reducible refine (correctorref5_Name.calls ((x3_1) % 256) t198 _ A10.out).mono ?_); rintro e w' ⟨rfl, ⟨nd, rfl⟩⟩) | (go_at_call 21; (with_reducible refine (chars_Flow.calls k1 ((x3_1) % 256) t199 _ A12.out).mono ?_); rintro e w' ⟨rfl, ⟨nd, rfl⟩⟩) | (go_at_call 22; (with_reducible refine (correctorref5_Flow.calls ((x3_1) % 256) t200 _ A13.out).mono ?_); rintro e w' ⟨rfl, ⟨nd, rfl⟩⟩))
                go_ret
                exact ⟨by first | rfl | (simp [errW_none, errW_some] <;> rfl) | (simp [*, errW_none, errW_some] <;> rfl), by repeat (first | (with_reducible first | exact HB.out | apply below_alloc | apply pw_below_drewN | apply below_drew1) | exact HB.out)⟩
              · rw [if_neg c14] at H
                have c14b0 : (t199 != t200) = false := by simpa using c14
                (try (have c14b1 : decide (t199 = t200) = true := by simpa using c14))
                (try (have c14b2 : (t199 == t200) = true := by simpa using c14))
                clear c14
                have H' := Aside0.mk H
                clear H
                go_wp2_with (first | ((with_reducible refine gate_callee (f := 17) rfl ?_); refine goesL_ (some 12) rfl rfl Try.func17 (by kernel_rfl) rfl #[.int .u8 ((x3_1) % 256)] rfl (by (try simp only [List.map_toArray, List.map_cons, List.map_nil]); first | done | rfl | (simp only [List.length_drop, List.length_take]; rfl)) ?_; (with_reducible refine (chars_Blank.calls ((x3_1) % 256) t195 _ A6.out).mono ?_); rintro e w' ⟨rfl, ⟨nd, rfl⟩⟩; refine ⟨_, rfl, ?_⟩) | ((with_reducible refine gate_callee (f := 18) rfl ?_); refine goesL_ (some 15) rfl rfl Try.func18 (by kernel_rfl) rfl #[.int .u8 ((x3_1) % 256)] rfl (by (try simp only [List.map_toArray, List.map_cons, List.map_nil]); first | done | rfl | (simp only [List.length_drop, List.length_take]; rfl)) ?_; (with_reducible refine (correctorref5_Blank.calls ((x3_1) % 256) t196 _ A7.out).mono ?_); rintro e w' ⟨rfl, ⟨nd, rfl⟩⟩; refine ⟨_, rfl, ?_⟩) | (go_at_call 19; (with_reducible refine (chars_Name.calls ((x3_1) % 256) t197 _ A9.out).mono ?_); rintro e w' ⟨rfl, ⟨nd, rfl⟩⟩) | (go_at_call 20; (with_reducible refine (correctorref5_Name.calls ((x3_1) % 256) t198 _ A10.out).mono ?_); rintro e w' ⟨rfl, ⟨nd, rfl⟩⟩) | (go_at_call 21; (with_reducible refine (chars_Flow.calls k1 ((x3_1) % 256) t199 _ A12.out).mono ?_); rintro e w' ⟨rfl, ⟨nd, rfl⟩⟩) | (go_at_call 22; (with_reducible refine (correctorref5_Flow.calls ((x3_1) % 256) t200 _ A13.out).mono ?_); rintro e w' ⟨rfl, ⟨nd, rfl⟩⟩))
                go_roundg k1
                case measure => have := HK1.out; omega
                case rel => exact ⟨(wrap64 (x3_1 + 1)), (by first | rfl | (simp; done) | (simp [*]; done)), H', ⟨by have := HK1.out; omega⟩, ⟨by repeat (first | (with_reducible first | exact HB.out | apply below_alloc | apply pw_below_drewN | apply below_drew1) | exact HB.out)⟩⟩
        · rw [if_neg c5] at H
          have c5b0 : decide (x3_1 < 256) = false := decide_eq_false c5
          clear c5
          replace H := Option.bind_eq_some_iff.mp H
          obtain ⟨t201, A150, H⟩ := H
          replace H : (if t201 = true then ((chars_Name.f a0).bind fun t202 => (if t202 = true then (some false) else (some (!false)))) else ((chars_Name.f a0).bind fun t203 => (if t203 = true then ((chars_Flow.f k1 a0).bind fun t204 => (some (!t204))) else (some (!false))))) = some r := H
          have A15 := Aside0.mk A150
          clear A150
          by_cases c16 : t201 = true
          · subst c16
            have H1 : ((chars_Name.f a0).bind fun t202 => (if t202 = true then (some false) else (some (!false)))) = some r := by rw [if_pos rfl] at H; exact H
            clear H
            have H := H1
            clear H1
            replace H := Option.bind_eq_some_iff.mp H
            obtain ⟨t202, A170, H⟩ := H
            replace H : (if t202 = true then (some false) else (some (!false))) = some r := H
            have A17 := Aside0.mk A170
            clear A170
            by_cases c18 : t202 = true
            · subst c18
              have H1 : (some false) = some r := by rw [if_pos rfl] at H; exact H
              clear H
              have H := H1
              clear H1
              obtain rfl := Option.some.inj H
              go_wp2_with (first | ((with_reducible refine gate_callee (f := 17) rfl ?_); refine goesL_ (some 36) rfl rfl Try.func17 (by kernel_rfl) rfl #[.int .u8 a0] rfl (by (try simp only [List.map_toArray, List.map_cons, List.map_nil]); first | done | rfl | (simp only [List.length_drop, List.length_take]; rfl)) ?_; (with_reducible refine (chars_Blank.calls a0 true _ A15.out).mono ?_); rintro e w' ⟨rfl, ⟨nd, rfl⟩⟩; refine ⟨_, rfl, ?_⟩) | (go_at_call 19; (with_reducible refine (chars_Name.calls a0 true _ A17.out).mono ?_); rintro e w' ⟨rfl, ⟨nd, rfl⟩⟩))
              go_ret
              exact ⟨by first | rfl | (simp [errW_none, errW_some] <;> rfl) | (simp [*, errW_none, errW_some] <;> rfl), by repeat (first | (with_reducible first | exact HB.out | apply below_alloc | apply pw_below_drewN | apply below_drew1) | exact HB.out)⟩
            · replace c18 := Bool.eq_false_iff.mpr c18
              subst c18
              have H1 : (some (!false)) = some r := by rw [if_neg (show ¬ (false = true) by decide)] at H; exact H
              clear H
              have H := H1
              clear H1
              obtain rfl := Option.some.inj H
              go_wp2_with (first | ((with_reducible refine gate_callee (f := 17) rfl ?_); refine goesL_ (some 36) rfl rfl Try.func17 (by kernel_rfl) rfl #[.int .u8 a0] rfl (by (try simp only [List.map_toArray, List.map_cons, List.map_nil]); first | done | rfl | (simp only [List.length_drop, List.length_take]; rfl)) ?_; (with_reducible refine (chars_Blank.calls a0 true _ A15.out).mono ?_); rintro e w' ⟨rfl, ⟨nd, rfl⟩⟩; refine ⟨_, rfl, ?_⟩) | (go_at_call 19; (with_reducible refine (chars_Name.calls a0 false _ A17.out).mono ?_); rintro e w' ⟨rfl, ⟨nd, rfl⟩⟩))
              go_ret
              exact ⟨by first | rfl | (simp [errW_none, errW_some] <;> rfl) | (simp [*, errW_none, errW_some] <;> rfl), by repeat (first | (with_reducible first | exact HB.out | apply below_alloc | apply pw_below_drewN | apply below_drew1) | exact HB.out)⟩
          · replace c16 := Bool.eq_false_iff.mpr c16
            subst c16
            have H1 : ((chars_Name.f a0).bind fun t203 => (if t203 = true then ((chars_Flow.f k1 a0).bind fun t204 => (some (!t204))) else (some (!false)))) = some r := by rw [if_neg (show ¬ (false = true) by decide)] at H; exact H
            clear H
            have H := H1
            clear H1
            replace H := Option.bind_eq_some_iff.mp H
            obtain ⟨t203, A190, H⟩ := H
            replace H : (if t203 = true then ((chars_Flow.f k1 a0).bind fun t204 => (some (!t204))) else (some (!false))) = some r := H
            have A19 := Aside0.mk A190
            clear A190
            by_cases c20 : t203 = true
            · subst c20
              have H1 : ((chars_Flow.f k1 a0).bind fun t204 => (some (!t204))) = some r := by rw [if_pos rfl] at H; exact H
              clear H
              have H := H1
              clear H1
              replace H := Option.bind_eq_some_iff.mp H
              obtain ⟨t204, A210, H⟩ := H
              replace H : (some (!t204)) = some r := H
              have A21 := Aside0.mk A210
              clear A210
              obtain rfl := Option.some.inj H
              go_wp2_with (first | ((with_reducible refine gate_callee (f := 17) rfl ?_); refine goesL_ (some 36) rfl rfl Try.func17 (by kernel_rfl) rfl #[.int .u8 a0] rfl (by (try simp only [List.map_toArray, List.map_cons, List.map_nil]); first | done | rfl | (simp only [List.length_drop, List.length_take]; rfl)) ?_; (with_reducible refine (chars_Blank.calls a0 false _ A15.out).mono ?_); rintro e w' ⟨rfl, ⟨nd, rfl⟩⟩; refine ⟨_, rfl, ?_⟩) | (go_at_call 19; (with_reducible refine (chars_Name.calls a0 true _ A19.out).mono ?_); rintro e w' ⟨rfl, ⟨nd, rfl⟩⟩) | (go_at_call 21; (with_reducible refine (chars_Flow.calls k1 a0 t204 _ A21.out).mono ?_); rintro e w' ⟨rfl, ⟨nd, rfl⟩⟩))
              go_ret
              exact ⟨by first | rfl | (simp [errW_none, errW_some] <;> rfl) | (simp [*, errW_none, errW_some] <;> rfl), by repeat (first | (with_reducible first | exact HB.out | apply below_alloc | apply pw_below_drewN | apply below_drew1) | exact HB.out)⟩
            · replace c20 := Bool.eq_false_iff.mpr c20
              subst c20
              have H1 : (some (!false)) = some r := by rw [if_neg (show ¬ (false = true) by decide)] at H; exact H
              clear H
              have H := H1
              clear H1
              obtain rfl := Option.some.inj H
              go_wp2_with (first | ((with_reducible refine gate_callee (f := 17) rfl ?_); refine goesL_ (some 36) rfl rfl Try.func17 (by kernel_rfl) rfl #[.int .u8 a0] rfl (by (try simp only [List.map_toArray, List.map_cons, List.map_nil]); first | done | rfl | (simp only [List.length_drop, List.length_take]; rfl)) ?_; (with_reducible refine (chars_Blank.calls a0 false _ A15.out).mono ?_); rintro e w' ⟨rfl, ⟨nd, rfl⟩⟩; refine ⟨_, rfl, ?_⟩) | (go_at_call 19; (with_reducible refine (chars_Name.calls a0 false _ A19.out).mono ?_); rintro e w' ⟨rfl, ⟨nd, rfl⟩⟩))
              go_ret
              exact ⟨by first | rfl | (simp [errW_none, errW_some] <;> rfl) | (simp [*, errW_none, errW_some] <;> rfl), by repeat (first | (with_reducible first | exact HB.out | apply below_alloc | apply pw_below_drewN | apply below_drew1) | exact HB.out)⟩
  · replace c3 := Bool.eq_false_iff.mpr c3
    subst c3
    have H1 : (some false) = some r := by rw [if_neg (show ¬ (false = true) by decide)] at H; exact H
    clear H
    have H := H1
    clear H1
    obtain rfl := Option.some.inj H
    go_enter Try.func7, Try.ntmps7
    go_wp2_with (first | ((with_reducible refine gate_callee (f := 13) rfl ?_); refine goesL_ (some 4) rfl rfl Try.func13 (by kernel_rfl) rfl #[] rfl (by (try simp only [List.map_toArray, List.map_cons, List.map_nil]); first | done | rfl | (simp only [List.length_drop, List.length_take]; rfl)) ?_; (with_reducible refine (correctorlaw5_known.calls k  false _ A2.out).mono ?_); rintro e w22 ⟨rfl, hb⟩; refine ⟨_, rfl, ?_⟩; have n0_ := Aside0.mk (below_step (by repeat (first | (with_reducible first | exact HB.out | apply below_alloc | apply pw_below_drewN | apply below_drew1) | exact HB.out)) hb); clear HB; have HB := n0_; clear n0_; (try clear hb); (try clear hb2); (try clear hk); (try clear hi)))
    go_ret
    exact ⟨by first | rfl | (simp [errW_none, errW_some] <;> rfl) | (simp [*, errW_none, errW_some] <;> rfl), by repeat (first | (with_reducible first | exact HB.out | apply below_alloc | apply pw_below_drewN | apply below_drew1) | exact HB.out)⟩

/-- THE ONE PURE STATEMENT of correctorlaw5_CharsClasses: yours. -/
def correctorlaw5_CharsClasses.Pure : Prop := ∀ (a0 : Int), (Lit.int .u8 a0).wf = true → ∃ k, correctorlaw5_CharsClasses.f k a0 = some true
theorem correctorlaw5_CharsClasses.walk (P : correctorlaw5_CharsClasses.Pure) (a0 : Int) (w : World) (w0 : (Lit.int .u8 a0).wf = true) :
    Calls Try.prog 7 #[.int .u8 a0] w fun e w' => e = .returned (.bool true) ∧ Below w.heap.size w w' := by
  obtain ⟨k, h⟩ := P a0 w0
  refine (correctorlaw5_CharsClasses.calls k a0 true w h).mono ?_
  rintro e w' ⟨rfl, hd⟩
  exact ⟨rfl, hd⟩

end Go.Proofs.Ytpigemgiegbblaa.Q
