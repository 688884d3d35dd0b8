/- Proved here, in the forms of the print's contracts: what each Go function answers, and the rows of the laws over it; by a program and by hand. -/
import Derived.Test.YtpigemgiegbblaaQ0
import Derived.Test.YtpigemgiegbblaaQcorrectorref5
namespace Go.Proofs.Ytpigemgiegbblaa.Q
open Go.RowKit Go.Proofs.YtpigemgiegbblaaW.PrintWords Go.Proofs.YtpigemgiegbblaaW.PrintLast Go.Proofs.YtpigemgiegbblaaW.PrintMore
attribute [local go_sem] max2_int min2_int max_two min_two max_three min_three max_four min_four   -- for this text's walks alone
set_option linter.unusedVariables false
set_option linter.unusedSimpArgs false

/-! ### correctorref15_number: function 45 -/
def correctorref15_number.l0 : Nat → ByteArray → Int → Int → Int → Int → Option (Int × Bool)
  | 0, _, _, _, _, _ => none
  | k + 1, x0, x1, x2, x8, x9 => if x9 < (x0.size : Int) then (if 0 ≤ x9 then ((correctorref5_Hex.f k (bt x0 x9)).bind fun t278 => (if t278 < 0 then (some (0, false)) else (if t278 ≥ x1 then (some (0, false)) else (if (IntKind.u64.wrap (x1)) = 0 then (none) else (if x8 > (IntKind.u64.wrap (Int.tdiv (IntKind.u64.wrap (x2 - (IntKind.u64.wrap (t278)))) (IntKind.u64.wrap (x1)))) then (some (0, false)) else (correctorref15_number.l0 k x0 x1 x2 (IntKind.u64.wrap ((IntKind.u64.wrap ((IntKind.u64.wrap (x1)) * x8)) + (IntKind.u64.wrap (t278)))) (wrap64 (x9 + 1)))))))) else (none)) else (some (x8, decide ((x0.size : Int) > 0)))
def correctorref15_number.f (k : Nat) (a0 : ByteArray) (a1 : Int) (a2 : Int) : Option (Int × Bool) := correctorref15_number.l0 k a0 a1 a2 0 0
theorem correctorref15_number.mono_l : ∀ k, (∀ y0 y1 y2 y3 y4, LeO (correctorref15_number.l0 k y0 y1 y2 y3 y4) (correctorref15_number.l0 (k + 1) y0 y1 y2 y3 y4))
  | 0 => fun _ _ _ _ _ r h => by simp [correctorref15_number.l0] at h
  | k + 1 => by
    have ih0 := correctorref15_number.mono_l k
    · intro y0 y1 y2 y3 y4
      unfold correctorref15_number.l0
      repeat' first
      | (with_reducible exact ih0 _ _ _ _ _)
      | (with_reducible exact correctorref5_Hex.mono _ _)
      | (with_reducible exact LeO.refl _)
      | (with_reducible exact LeO.none _)
      | (with_reducible refine LeO.ite ?_ ?_)
      | (with_reducible refine LeO.bind ?_ (fun _ => ?_))
      | exact ih0 _ _ _ _ _
      | exact correctorref5_Hex.mono _ _
      | exact LeO.none _
      | refine LeO.ite ?_ ?_
      | refine LeO.bind ?_ (fun _ => ?_)
theorem correctorref15_number.mono : ∀ a0 a1 a2 k, LeO (correctorref15_number.f k a0 a1 a2) (correctorref15_number.f (k + 1) a0 a1 a2) := by
  intro a0 a1 a2 k
  have ih0 := correctorref15_number.mono_l k
  unfold correctorref15_number.f
  repeat' first
      | (with_reducible exact ih0 _ _ _ _ _)
      | (with_reducible exact correctorref5_Hex.mono _ _)
      | (with_reducible exact LeO.refl _)
      | (with_reducible exact LeO.none _)
      | (with_reducible refine LeO.ite ?_ ?_)
      | (with_reducible refine LeO.bind ?_ (fun _ => ?_))
      | exact ih0 _ _ _ _ _
      | exact correctorref5_Hex.mono _ _
      | exact LeO.none _
      | refine LeO.ite ?_ ?_
      | refine LeO.bind ?_ (fun _ => ?_)
set_option maxHeartbeats 8000000 in
set_option maxRecDepth 100000 in
theorem correctorref15_number.calls (k : Nat) (a0 : ByteArray) (a1 : Int) (a2 : Int) (r1 : Int) (r2 : Bool) (w : World) (h : correctorref15_number.f k a0 a1 a2 = some (r1, r2)) :
    Calls Try.prog 45 #[.string a0, .int .i64 a1, .int .u64 a2] w fun e w' => e = .returned (.tuple #[.int .u64 r1, .bool r2]) ∧ Drawn0 w w' := by
  have H : (correctorref15_number.l0 k a0 a1 a2 0 0) = some (r1, r2) := h
  clear h
  have H' := Aside0.mk H
  clear H
  go_enter Try.func45, Try.ntmps45
  go_wp2
  go_loopg [8, 9] k (fun kq v8 v9 w' => ∃ (x8_1 : Int) (x9_1 : Int), v8 = .int .u64 x8_1 ∧ v9 = .int .i64 x9_1 ∧ Aside0 (correctorref15_number.l0 kq a0 a1 a2 x8_1 x9_1 = some (r1, r2)) ∧ Aside0 (kq ≤ k) ∧ Drawn0 w w')
  case atStart => exact ⟨(0), (0), (by first | rfl | (simp; done) | (simp [*]; done)), (by first | rfl | (simp; done) | (simp [*]; done)), H', ⟨Nat.le_refl _⟩, by repeat (first | exact Drawn0.refl _ | apply Drawn0.step)⟩
  case round =>
    clear H'
    try clear p2
    obtain ⟨x8_1, x9_1, rfl, rfl, HA, HK1, ⟨m1, rfl⟩⟩ := hrel
    cases gk with
    | zero => exact absurd HA.out (by simp [correctorref15_number.l0])
    | succ k1 =>
      have H := HA.out
      clear HA
      simp only [correctorref15_number.l0] at H
      by_cases c4 : x9_1 < (a0.size : Int)
      · rw [if_pos c4] at H
        have c4b0 : decide (x9_1 < (a0.size : Int)) = true := decide_eq_true c4
        clear c4
        by_cases c5 : 0 ≤ x9_1
        · rw [if_pos c5] at H
          have c5b0 : decide (0 ≤ x9_1) = true := decide_eq_true c5
          clear c5
          replace H := Option.bind_eq_some_iff.mp H
          obtain ⟨t278, A70, H⟩ := H
          replace H : (if t278 < 0 then (some (0, false)) else (if t278 ≥ a1 then (some (0, false)) else (if (IntKind.u64.wrap (a1)) = 0 then (none) else (if x8_1 > (IntKind.u64.wrap (Int.tdiv (IntKind.u64.wrap (a2 - (IntKind.u64.wrap (t278)))) (IntKind.u64.wrap (a1)))) then (some (0, false)) else (correctorref15_number.l0 k1 a0 a1 a2 (IntKind.u64.wrap ((IntKind.u64.wrap ((IntKind.u64.wrap (a1)) * x8_1)) + (IntKind.u64.wrap (t278)))) (wrap64 (x9_1 + 1))))))) = some (r1, r2) := H
          have A7 := Aside0.mk A70
          clear A70
          by_cases c8 : t278 < 0
          · rw [if_pos c8] at H
            have c8b0 : decide (t278 < 0) = true := decide_eq_true c8
            clear c8
            simp only [Option.some.injEq, Prod.mk.injEq] at H
            obtain ⟨rfl, rfl⟩ := H
            have p6 : 0 ≤ (x9_1 : Int) := of_decide_eq_true (by first | (with_reducible assumption) | assumption)
            have q6 : x9_1 < (a0.size : Int) := of_decide_eq_true (by first | (with_reducible assumption) | assumption)
            have hx6 := bt_at a0 x9_1
            replace p6 := eq_true p6
            replace q6 := eq_true q6
            go_wp2_with (first | ((with_reducible refine gate_callee (f := 38) rfl ?_); refine goesL_ (some 20) rfl rfl Try.func38 (by kernel_rfl) rfl #[.int .u8 (bt a0 x9_1)] rfl (by (try simp only [List.map_toArray, List.map_cons, List.map_nil]); first | done | rfl | (simp only [List.length_drop, List.length_take]; rfl) | (simp only [ByteArray.size_extract, Nat.min_self]; done) | (simp only [ByteArray.size_extract, Nat.min_self]; rfl)) ?_; (with_reducible refine (correctorref5_Hex.calls k1 (bt a0 x9_1) t278 _ A7.out).mono ?_); rintro e w' ⟨rfl, ⟨nd, rfl⟩⟩; refine ⟨_, rfl, ?_⟩))
            go_ret2
            exact ⟨by first | rfl | (simp; done) | (simp [*]; done), by repeat (first | exact Drawn0.refl _ | apply Drawn0.step)⟩
          · rw [if_neg c8] at H
            have c8b0 : decide (t278 < 0) = false := decide_eq_false c8
            clear c8
            by_cases c9 : t278 ≥ a1
            · rw [if_pos c9] at H
              have c9b0 : decide (a1 ≤ t278) = true := decide_eq_true c9
              clear c9
              simp only [Option.some.injEq, Prod.mk.injEq] at H
              obtain ⟨rfl, rfl⟩ := H
              have p6 : 0 ≤ (x9_1 : Int) := of_decide_eq_true (by first | (with_reducible assumption) | assumption)
              have q6 : x9_1 < (a0.size : Int) := of_decide_eq_true (by first | (with_reducible assumption) | assumption)
              have hx6 := bt_at a0 x9_1
              replace p6 := eq_true p6
              replace q6 := eq_true q6
              go_wp2_with (first | ((with_reducible refine gate_callee (f := 38) rfl ?_); refine goesL_ (some 20) rfl rfl Try.func38 (by kernel_rfl) rfl #[.int .u8 (bt a0 x9_1)] rfl (by (try simp only [List.map_toArray, List.map_cons, List.map_nil]); first | done | rfl | (simp only [List.length_drop, List.length_take]; rfl) | (simp only [ByteArray.size_extract, Nat.min_self]; done) | (simp only [ByteArray.size_extract, Nat.min_self]; rfl)) ?_; (with_reducible refine (correctorref5_Hex.calls k1 (bt a0 x9_1) t278 _ A7.out).mono ?_); rintro e w' ⟨rfl, ⟨nd, rfl⟩⟩; refine ⟨_, rfl, ?_⟩))
              go_ret2
              exact ⟨by first | rfl | (simp; done) | (simp [*]; done), by repeat (first | exact Drawn0.refl _ | apply Drawn0.step)⟩
            · rw [if_neg c9] at H
              have c9b0 : decide (a1 ≤ t278) = false := decide_eq_false c9
              clear c9
              by_cases c10 : (IntKind.u64.wrap (a1)) = 0
              · rw [if_pos c10] at H
                exact absurd H (by simp)
              · rw [if_neg c10] at H
                have c10b0 : ((IntKind.u64.wrap (a1)) == 0) = false := beq_eq_false_iff_ne.mpr c10
                have c10b1 : ((IntKind.u64.wrap (a1)) != 0) = true := bne_iff_ne.mpr c10
                by_cases c11 : x8_1 > (IntKind.u64.wrap (Int.tdiv (IntKind.u64.wrap (a2 - (IntKind.u64.wrap (t278)))) (IntKind.u64.wrap (a1))))
                · rw [if_pos c11] at H
                  have c11b0 : decide ((IntKind.u64.wrap (Int.tdiv (IntKind.u64.wrap (a2 - (IntKind.u64.wrap (t278)))) (IntKind.u64.wrap (a1)))) < x8_1) = true := decide_eq_true c11
                  clear c11
                  simp only [Option.some.injEq, Prod.mk.injEq] at H
                  obtain ⟨rfl, rfl⟩ := H
                  have p6 : 0 ≤ (x9_1 : Int) := of_decide_eq_true (by first | (with_reducible assumption) | assumption)
                  have q6 : x9_1 < (a0.size : Int) := of_decide_eq_true (by first | (with_reducible assumption) | assumption)
                  have hx6 := bt_at a0 x9_1
                  replace p6 := eq_true p6
                  replace q6 := eq_true q6
                  go_wp2_with (first | ((with_reducible refine gate_callee (f := 38) rfl ?_); refine goesL_ (some 20) rfl rfl Try.func38 (by kernel_rfl) rfl #[.int .u8 (bt a0 x9_1)] rfl (by (try simp only [List.map_toArray, List.map_cons, List.map_nil]); first | done | rfl | (simp only [List.length_drop, List.length_take]; rfl) | (simp only [ByteArray.size_extract, Nat.min_self]; done) | (simp only [ByteArray.size_extract, Nat.min_self]; rfl)) ?_; (with_reducible refine (correctorref5_Hex.calls k1 (bt a0 x9_1) t278 _ A7.out).mono ?_); rintro e w' ⟨rfl, ⟨nd, rfl⟩⟩; refine ⟨_, rfl, ?_⟩))
                  go_ret2
                  exact ⟨by first | rfl | (simp; done) | (simp [*]; done), by repeat (first | exact Drawn0.refl _ | apply Drawn0.step)⟩
                · rw [if_neg c11] at H
                  have c11b0 : decide ((IntKind.u64.wrap (Int.tdiv (IntKind.u64.wrap (a2 - (IntKind.u64.wrap (t278)))) (IntKind.u64.wrap (a1)))) < x8_1) = false := decide_eq_false c11
                  clear c11
                  have H' := Aside0.mk H
                  clear H
                  have p6 : 0 ≤ (x9_1 : Int) := of_decide_eq_true (by first | (with_reducible assumption) | assumption)
                  have q6 : x9_1 < (a0.size : Int) := of_decide_eq_true (by first | (with_reducible assumption) | assumption)
                  have hx6 := bt_at a0 x9_1
                  replace p6 := eq_true p6
                  replace q6 := eq_true q6
                  go_wp2_with (first | ((with_reducible refine gate_callee (f := 38) rfl ?_); refine goesL_ (some 20) rfl rfl Try.func38 (by kernel_rfl) rfl #[.int .u8 (bt a0 x9_1)] rfl (by (try simp only [List.map_toArray, List.map_cons, List.map_nil]); first | done | rfl | (simp only [List.length_drop, List.length_take]; rfl) | (simp only [ByteArray.size_extract, Nat.min_self]; done) | (simp only [ByteArray.size_extract, Nat.min_self]; rfl)) ?_; (with_reducible refine (correctorref5_Hex.calls k1 (bt a0 x9_1) t278 _ A7.out).mono ?_); rintro e w' ⟨rfl, ⟨nd, rfl⟩⟩; refine ⟨_, rfl, ?_⟩))
                  go_roundg k1
                  case measure => have := HK1.out; omega
                  case rel => exact ⟨(IntKind.u64.wrap ((IntKind.u64.wrap ((IntKind.u64.wrap (a1)) * x8_1)) + (IntKind.u64.wrap (t278)))), (wrap64 (x9_1 + 1)), (by first | rfl | (simp; done) | (simp [*]; done)), (by first | rfl | (simp; done) | (simp [*]; done)), H', ⟨by have := HK1.out; omega⟩, by repeat (first | exact Drawn0.refl _ | apply Drawn0.step)⟩
        · rw [if_neg c5] at H
          exact absurd H (by simp)
      · rw [if_neg c4] at H
        have c4b0 : decide (x9_1 < (a0.size : Int)) = false := decide_eq_false c4
        clear c4
        simp only [Option.some.injEq, Prod.mk.injEq] at H
        obtain ⟨rfl, rfl⟩ := H
        go_wp2
        go_ret2
        exact ⟨by first | rfl | (simp; done) | (simp [*]; done), by repeat (first | exact Drawn0.refl _ | apply Drawn0.step)⟩

/-! ### correctorref15_signed: function 46 -/
def correctorref15_signed.f (a0 : ByteArray) : Option (Bool × Bool × ByteArray) := if (a0.size : Int) > 0 then (if 0 < (a0.size : Int) then (if (bt a0 0) = 43 then (if 1 ≤ (a0.size : Int) then (some (true, ((bt a0 0) == 45), a0.extract 1 a0.size)) else (none)) else (if (bt a0 0) = 45 then (if 1 ≤ (a0.size : Int) then (some (true, ((bt a0 0) == 45), a0.extract 1 a0.size)) else (none)) else (some (false, false, a0)))) else (none)) else (some (false, false, a0))
set_option maxHeartbeats 8000000 in
set_option maxRecDepth 100000 in
theorem correctorref15_signed.calls (a0 : ByteArray) (r1 : Bool) (r2 : Bool) (r3 : ByteArray) (w : World) (h : correctorref15_signed.f a0 = some (r1, r2, r3)) :
    Calls Try.prog 46 #[.string a0] w fun e w' => e = .returned (.tuple #[.bool r1, .bool r2, .string r3]) ∧ Drawn0 w w' := by
  have H : (if (a0.size : Int) > 0 then (if 0 < (a0.size : Int) then (if (bt a0 0) = 43 then (if 1 ≤ (a0.size : Int) then (some (true, ((bt a0 0) == 45), a0.extract 1 a0.size)) else (none)) else (if (bt a0 0) = 45 then (if 1 ≤ (a0.size : Int) then (some (true, ((bt a0 0) == 45), a0.extract 1 a0.size)) else (none)) else (some (false, false, a0)))) else (none)) else (some (false, false, a0))) = some (r1, r2, r3) := h
  clear h
  by_cases c2 : (a0.size : Int) > 0
  · rw [if_pos c2] at H
    have c2b0 : decide (0 < (a0.size : Int)) = true := decide_eq_true c2
    have c2b1 : decide (0 < a0.size) = true := decide_eq_true (by omega)
    clear c2
    by_cases c3 : 0 < (a0.size : Int)
    · rw [if_pos c3] at H
      have c3b0 : decide (0 < (a0.size : Int)) = true := decide_eq_true c3
      have c3b1 : decide (0 < a0.size) = true := decide_eq_true (by omega)
      clear c3
      by_cases c5 : (bt a0 0) = 43
      · rw [if_pos c5] at H
        have c5b0 : ((bt a0 0) == 43) = true := beq_iff_eq.mpr c5
        have c5b1 : ((bt a0 0) != 43) = false := bne_eq_false_iff_eq.mpr c5
        clear c5
        by_cases c7 : 1 ≤ (a0.size : Int)
        · rw [if_pos c7] at H
          have c7b0 := eq_true c7
          have c7b1 : decide (1 ≤ (a0.size : Int)) = true := decide_eq_true c7
          clear c7
          simp only [Option.some.injEq, Prod.mk.injEq] at H
          obtain ⟨rfl, rfl, rfl⟩ := H
          have p4 : 0 ≤ (0 : Int) := (by omega)
          have q4 : 0 < a0.size := (by have : (0 : Int) < (a0.size : Int) := of_decide_eq_true (by first | (with_reducible assumption) | assumption); omega)
          have hx4 : ∀ h : 0 < a0.size, ((a0[0]'h).toNat : Int) = bt a0 0 := bt_at a0 0
          clear p4
          have qi4 : (0 < (a0.size : Int)) = True := eq_true (of_decide_eq_true (by first | (with_reducible assumption) | assumption))
          replace q4 := eq_true q4
          have p6 : 0 ≤ (0 : Int) := (by omega)
          have q6 : 0 < a0.size := (by have : (0 : Int) < (a0.size : Int) := of_decide_eq_true (by first | (with_reducible assumption) | assumption); omega)
          have hx6 : ∀ h : 0 < a0.size, ((a0[0]'h).toNat : Int) = bt a0 0 := bt_at a0 0
          clear p6
          have qi6 : (0 < (a0.size : Int)) = True := eq_true (of_decide_eq_true (by first | (with_reducible assumption) | assumption))
          replace q6 := eq_true q6
          go_enter Try.func46, Try.ntmps46
          go_wp2
          repeat (go_quiet (fail); try go_wp2)
          go_ret3
          exact ⟨by first | rfl | (simp; done) | (simp [*]; done), by repeat (first | exact Drawn0.refl _ | apply Drawn0.step)⟩
        · rw [if_neg c7] at H
          exact absurd H (by simp)
      · rw [if_neg c5] at H
        have c5b0 : ((bt a0 0) == 43) = false := beq_eq_false_iff_ne.mpr c5
        have c5b1 : ((bt a0 0) != 43) = true := bne_iff_ne.mpr c5
        by_cases c9 : (bt a0 0) = 45
        · rw [if_pos c9] at H
          have c9b0 : ((bt a0 0) == 45) = true := beq_iff_eq.mpr c9
          have c9b1 : ((bt a0 0) != 45) = false := bne_eq_false_iff_eq.mpr c9
          clear c9
          by_cases c11 : 1 ≤ (a0.size : Int)
          · rw [if_pos c11] at H
            have c11b0 := eq_true c11
            have c11b1 : decide (1 ≤ (a0.size : Int)) = true := decide_eq_true c11
            clear c11
            simp only [Option.some.injEq, Prod.mk.injEq] at H
            obtain ⟨rfl, rfl, rfl⟩ := H
            have p4 : 0 ≤ (0 : Int) := (by omega)
            have q4 : 0 < a0.size := (by have : (0 : Int) < (a0.size : Int) := of_decide_eq_true (by first | (with_reducible assumption) | assumption); omega)
            have hx4 : ∀ h : 0 < a0.size, ((a0[0]'h).toNat : Int) = bt a0 0 := bt_at a0 0
            clear p4
            have qi4 : (0 < (a0.size : Int)) = True := eq_true (of_decide_eq_true (by first | (with_reducible assumption) | assumption))
            replace q4 := eq_true q4
            have p8 : 0 ≤ (0 : Int) := (by omega)
            have q8 : 0 < a0.size := (by have : (0 : Int) < (a0.size : Int) := of_decide_eq_true (by first | (with_reducible assumption) | assumption); omega)
            have hx8 : ∀ h : 0 < a0.size, ((a0[0]'h).toNat : Int) = bt a0 0 := bt_at a0 0
            clear p8
            have qi8 : (0 < (a0.size : Int)) = True := eq_true (of_decide_eq_true (by first | (with_reducible assumption) | assumption))
            replace q8 := eq_true q8
            have p10 : 0 ≤ (0 : Int) := (by omega)
            have q10 : 0 < a0.size := (by have : (0 : Int) < (a0.size : Int) := of_decide_eq_true (by first | (with_reducible assumption) | assumption); omega)
            have hx10 : ∀ h : 0 < a0.size, ((a0[0]'h).toNat : Int) = bt a0 0 := bt_at a0 0
            clear p10
            have qi10 : (0 < (a0.size : Int)) = True := eq_true (of_decide_eq_true (by first | (with_reducible assumption) | assumption))
            replace q10 := eq_true q10
            go_enter Try.func46, Try.ntmps46
            go_wp2
            repeat (go_quiet (fail); try go_wp2)
            go_ret3
            exact ⟨by first | rfl | (simp; done) | (simp [*]; done), by repeat (first | exact Drawn0.refl _ | apply Drawn0.step)⟩
          · rw [if_neg c11] at H
            exact absurd H (by simp)
        · rw [if_neg c9] at H
          have c9b0 : ((bt a0 0) == 45) = false := beq_eq_false_iff_ne.mpr c9
          have c9b1 : ((bt a0 0) != 45) = true := bne_iff_ne.mpr c9
          simp only [Option.some.injEq, Prod.mk.injEq] at H
          obtain ⟨rfl, rfl, rfl⟩ := H
          have p4 : 0 ≤ (0 : Int) := (by omega)
          have q4 : 0 < a0.size := (by have : (0 : Int) < (a0.size : Int) := of_decide_eq_true (by first | (with_reducible assumption) | assumption); omega)
          have hx4 : ∀ h : 0 < a0.size, ((a0[0]'h).toNat : Int) = bt a0 0 := bt_at a0 0
          clear p4
          have qi4 : (0 < (a0.size : Int)) = True := eq_true (of_decide_eq_true (by first | (with_reducible assumption) | assumption))
          replace q4 := eq_true q4
          have p8 : 0 ≤ (0 : Int) := (by omega)
          have q8 : 0 < a0.size := (by have : (0 : Int) < (a0.size : Int) := of_decide_eq_true (by first | (with_reducible assumption) | assumption); omega)
          have hx8 : ∀ h : 0 < a0.size, ((a0[0]'h).toNat : Int) = bt a0 0 := bt_at a0 0
          clear p8
          have qi8 : (0 < (a0.size : Int)) = True := eq_true (of_decide_eq_true (by first | (with_reducible assumption) | assumption))
          replace q8 := eq_true q8
          go_enter Try.func46, Try.ntmps46
          go_wp2
          repeat (go_quiet (fail); try go_wp2)
          go_ret3
          exact ⟨by first | rfl | (simp; done) | (simp [*]; done), by repeat (first | exact Drawn0.refl _ | apply Drawn0.step)⟩
    · rw [if_neg c3] at H
      exact absurd H (by simp)
  · rw [if_neg c2] at H
    have c2b0 : decide (0 < (a0.size : Int)) = false := decide_eq_false c2
    have c2b1 : decide (0 < a0.size) = false := decide_eq_false (by omega)
    clear c2
    simp only [Option.some.injEq, Prod.mk.injEq] at H
    obtain ⟨rfl, rfl, rfl⟩ := H
    go_enter Try.func46, Try.ntmps46
    go_wp2
    repeat (go_quiet (fail); try go_wp2)
    go_ret3
    exact ⟨by first | rfl | (simp; done) | (simp [*]; done), by repeat (first | exact Drawn0.refl _ | apply Drawn0.step)⟩

/-! ### correctorref15_Int: function 29 -/
def correctorref15_Int.j0 : Nat → ByteArray → Bool → Option (Int × Bool)
  | 0, _, _ => none
  | k + 1, x0, x31 => if x31 = true then (if 1 < (x0.size : Int) then (if (bt x0 1) = 120 then (if 2 ≤ (x0.size : Int) then ((correctorref15_number.f k (x0.extract 2 x0.size) 16 9223372036854775807).bind fun bt279 => (some (wrap64 (bt279.1), bt279.2))) else (none)) else (if 2 ≤ (x0.size : Int) then ((correctorref15_number.f k (x0.extract 2 x0.size) 8 9223372036854775807).bind fun bt281 => (some (wrap64 (bt281.1), bt281.2))) else (none))) else (none)) else ((correctorref15_signed.f x0).bind fun bt283 => (if bt283.2.1 = true then ((correctorref15_number.f k bt283.2.2 10 9223372036854775808).bind fun bt286 => (some (wrap64 (IntKind.u64.wrap (-bt286.1)), bt286.2))) else ((correctorref15_number.f k bt283.2.2 10 9223372036854775807).bind fun bt288 => (some (wrap64 (bt288.1), bt288.2)))))
def correctorref15_Int.f (k : Nat) (a0 : ByteArray) : Option (Int × Bool) := if (a0.size : Int) > 2 then (if 0 < (a0.size : Int) then (if (bt a0 0) = 48 then (if 1 < (a0.size : Int) then (if (bt a0 1) = 111 then (correctorref15_Int.j0 k a0 true) else (correctorref15_Int.j0 k a0 ((bt a0 1) == 120))) else (none)) else (correctorref15_Int.j0 k a0 false)) else (none)) else (correctorref15_Int.j0 k a0 false)
theorem correctorref15_Int.mono_l : ∀ k, (∀ y0 y1, LeO (correctorref15_Int.j0 k y0 y1) (correctorref15_Int.j0 (k + 1) y0 y1))
  | 0 => fun _ _ r h => by simp [correctorref15_Int.j0] at h
  | k + 1 => by
    have ih0 := correctorref15_Int.mono_l k
    · intro y0 y1
      unfold correctorref15_Int.j0
      repeat' first
      | (with_reducible exact ih0 _ _)
      | (with_reducible exact correctorref15_number.mono _ _ _ _)
      | (with_reducible exact LeO.refl _)
      | (with_reducible exact LeO.none _)
      | (with_reducible refine LeO.ite ?_ ?_)
      | (with_reducible refine LeO.bind ?_ (fun _ => ?_))
      | exact ih0 _ _
      | exact correctorref15_number.mono _ _ _ _
      | exact LeO.none _
      | refine LeO.ite ?_ ?_
      | refine LeO.bind ?_ (fun _ => ?_)
theorem correctorref15_Int.mono : ∀ a0 k, LeO (correctorref15_Int.f k a0) (correctorref15_Int.f (k + 1) a0) := by
  intro a0 k
  have ih0 := correctorref15_Int.mono_l k
  unfold correctorref15_Int.f
  repeat' first
      | (with_reducible exact ih0 _ _)
      | (with_reducible exact correctorref15_number.mono _ _ _ _)
      | (with_reducible exact LeO.refl _)
      | (with_reducible exact LeO.none _)
      | (with_reducible refine LeO.ite ?_ ?_)
      | (with_reducible refine LeO.bind ?_ (fun _ => ?_))
      | exact ih0 _ _
      | exact correctorref15_number.mono _ _ _ _
      | exact LeO.none _
      | refine LeO.ite ?_ ?_
      | refine LeO.bind ?_ (fun _ => ?_)
set_option maxHeartbeats 8000000 in
set_option maxRecDepth 100000 in
theorem correctorref15_Int.calls (k : Nat) (a0 : ByteArray) (r1 : Int) (r2 : Bool) (w : World) (h : correctorref15_Int.f k a0 = some (r1, r2)) :
    Calls Try.prog 29 #[.string a0] w fun e w' => e = .returned (.tuple #[.int .i64 r1, .bool r2]) ∧ Drawn0 w w' := by
  have H : (if (a0.size : Int) > 2 then (if 0 < (a0.size : Int) then (if (bt a0 0) = 48 then (if 1 < (a0.size : Int) then (if (bt a0 1) = 111 then (correctorref15_Int.j0 k a0 true) else (correctorref15_Int.j0 k a0 ((bt a0 1) == 120))) else (none)) else (correctorref15_Int.j0 k a0 false)) else (none)) else (correctorref15_Int.j0 k a0 false)) = some (r1, r2) := h
  clear h
  have HC2 := Aside0.mk H
  clear H
  go_enter Try.func29, Try.ntmps29
  go_upto_region 1 with (fail)
  go_cut [31] (fun v31 wc => ∃ (kq : Nat) (x31_1 : Bool), v31 = .bool x31_1 ∧ Aside0 (correctorref15_Int.j0 kq a0 x31_1 = some (r1, r2)) ∧ Aside0 (kq ≤ k) ∧ Drawn0 w wc)
  case first =>
    have H := HC2.out
    clear HC2
    by_cases c3 : (a0.size : Int) > 2
    · rw [if_pos c3] at H
      have c3b0 : decide (2 < (a0.size : Int)) = true := decide_eq_true c3
      have c3b1 : decide (2 < a0.size) = true := decide_eq_true (by omega)
      clear c3
      (first | rw [c3b0] | (simp only [i64_w, i32_w]; rw [c3b0]) | skip)
      by_cases c4 : 0 < (a0.size : Int)
      · rw [if_pos c4] at H
        have c4b0 : decide (0 < (a0.size : Int)) = true := decide_eq_true c4
        have c4b1 : decide (0 < a0.size) = true := decide_eq_true (by omega)
        clear c4
        by_cases c6 : (bt a0 0) = 48
        · rw [if_pos c6] at H
          have c6b0 : ((bt a0 0) == 48) = true := beq_iff_eq.mpr c6
          have c6b1 : ((bt a0 0) != 48) = false := bne_eq_false_iff_eq.mpr c6
          clear c6
          by_cases c7 : 1 < (a0.size : Int)
          · rw [if_pos c7] at H
            have c7b0 : decide (1 < (a0.size : Int)) = true := decide_eq_true c7
            have c7b1 : decide (1 < a0.size) = true := decide_eq_true (by omega)
            clear c7
            by_cases c9 : (bt a0 1) = 111
            · rw [if_pos c9] at H
              have c9b0 : ((bt a0 1) == 111) = true := beq_iff_eq.mpr c9
              have c9b1 : ((bt a0 1) != 111) = false := bne_eq_false_iff_eq.mpr c9
              clear c9
              have H' := Aside0.mk H
              clear H
              have p5 : 0 ≤ (0 : Int) := (by omega)
              have q5 : 0 < a0.size := (by have : (0 : Int) < (a0.size : Int) := of_decide_eq_true (by first | (with_reducible assumption) | assumption); omega)
              have hx5 : ∀ h : 0 < a0.size, ((a0[0]'h).toNat : Int) = bt a0 0 := bt_at a0 0
              clear p5
              have qi5 : (0 < (a0.size : Int)) = True := eq_true (of_decide_eq_true (by first | (with_reducible assumption) | assumption))
              replace q5 := eq_true q5
              have p8 : 0 ≤ (1 : Int) := (by omega)
              have q8 : 1 < a0.size := (by have : (1 : Int) < (a0.size : Int) := of_decide_eq_true (by first | (with_reducible assumption) | assumption); omega)
              have hx8 : ∀ h : 1 < a0.size, ((a0[1]'h).toNat : Int) = bt a0 1 := bt_at a0 1
              clear p8
              have qi8 : (1 < (a0.size : Int)) = True := eq_true (of_decide_eq_true (by first | (with_reducible assumption) | assumption))
              replace q8 := eq_true q8
              go_wp2
              go_meet
              case rel => exact ⟨_, (true), (by first | rfl | (simp; done) | (simp [*]; done)), H', ⟨by first | omega | exact Nat.le_refl _⟩, by repeat (first | exact Drawn0.refl _ | apply Drawn0.step)⟩
            · rw [if_neg c9] at H
              have c9b0 : ((bt a0 1) == 111) = false := beq_eq_false_iff_ne.mpr c9
              have c9b1 : ((bt a0 1) != 111) = true := bne_iff_ne.mpr c9
              have H' := Aside0.mk H
              clear H
              have p5 : 0 ≤ (0 : Int) := (by omega)
              have q5 : 0 < a0.size := (by have : (0 : Int) < (a0.size : Int) := of_decide_eq_true (by first | (with_reducible assumption) | assumption); omega)
              have hx5 : ∀ h : 0 < a0.size, ((a0[0]'h).toNat : Int) = bt a0 0 := bt_at a0 0
              clear p5
              have qi5 : (0 < (a0.size : Int)) = True := eq_true (of_decide_eq_true (by first | (with_reducible assumption) | assumption))
              replace q5 := eq_true q5
              have p8 : 0 ≤ (1 : Int) := (by omega)
              have q8 : 1 < a0.size := (by have : (1 : Int) < (a0.size : Int) := of_decide_eq_true (by first | (with_reducible assumption) | assumption); omega)
              have hx8 : ∀ h : 1 < a0.size, ((a0[1]'h).toNat : Int) = bt a0 1 := bt_at a0 1
              clear p8
              have qi8 : (1 < (a0.size : Int)) = True := eq_true (of_decide_eq_true (by first | (with_reducible assumption) | assumption))
              replace q8 := eq_true q8
              have p10 : 0 ≤ (1 : Int) := (by omega)
              have q10 : 1 < a0.size := (by have : (1 : Int) < (a0.size : Int) := of_decide_eq_true (by first | (with_reducible assumption) | assumption); omega)
              have hx10 : ∀ h : 1 < a0.size, ((a0[1]'h).toNat : Int) = bt a0 1 := bt_at a0 1
              clear p10
              have qi10 : (1 < (a0.size : Int)) = True := eq_true (of_decide_eq_true (by first | (with_reducible assumption) | assumption))
              replace q10 := eq_true q10
              go_wp2
              go_meet
              case rel => exact ⟨_, (((bt a0 1) == 120)), (by first | rfl | (simp; done) | (simp [*]; done)), H', ⟨by first | omega | exact Nat.le_refl _⟩, by repeat (first | exact Drawn0.refl _ | apply Drawn0.step)⟩
          · rw [if_neg c7] at H
            exact absurd H (by simp)
        · rw [if_neg c6] at H
          have c6b0 : ((bt a0 0) == 48) = false := beq_eq_false_iff_ne.mpr c6
          have c6b1 : ((bt a0 0) != 48) = true := bne_iff_ne.mpr c6
          have H' := Aside0.mk H
          clear H
          have p5 : 0 ≤ (0 : Int) := (by omega)
          have q5 : 0 < a0.size := (by have : (0 : Int) < (a0.size : Int) := of_decide_eq_true (by first | (with_reducible assumption) | assumption); omega)
          have hx5 : ∀ h : 0 < a0.size, ((a0[0]'h).toNat : Int) = bt a0 0 := bt_at a0 0
          clear p5
          have qi5 : (0 < (a0.size : Int)) = True := eq_true (of_decide_eq_true (by first | (with_reducible assumption) | assumption))
          replace q5 := eq_true q5
          go_wp2
          go_meet
          case rel => exact ⟨_, (false), (by first | rfl | (simp; done) | (simp [*]; done)), H', ⟨by first | omega | exact Nat.le_refl _⟩, by repeat (first | exact Drawn0.refl _ | apply Drawn0.step)⟩
      · rw [if_neg c4] at H
        exact absurd H (by simp)
    · rw [if_neg c3] at H
      have c3b0 : decide (2 < (a0.size : Int)) = false := decide_eq_false c3
      have c3b1 : decide (2 < a0.size) = false := decide_eq_false (by omega)
      clear c3
      (first | rw [c3b0] | (simp only [i64_w, i32_w]; rw [c3b0]) | skip)
      have H' := Aside0.mk H
      clear H
      go_wp2
      go_meet
      case rel => exact ⟨_, (false), (by first | rfl | (simp; done) | (simp [*]; done)), H', ⟨by first | omega | exact Nat.le_refl _⟩, by repeat (first | exact Drawn0.refl _ | apply Drawn0.step)⟩
  case rest =>
    clear HC2
    try clear p1
    try clear q1
    try clear hx1
    try clear qi1
    try clear c2
    try clear p2
    try clear c3
    try clear c3b0
    try clear c3b1
    try clear c4
    try clear c4b0
    try clear c4b1
    try clear p5
    try clear q5
    try clear hx5
    try clear qi5
    try clear c6
    try clear c6b0
    try clear c6b1
    try clear c7
    try clear c7b0
    try clear c7b1
    try clear p8
    try clear q8
    try clear hx8
    try clear qi8
    try clear c9
    try clear c9b0
    try clear c9b1
    try clear p10
    try clear q10
    try clear hx10
    try clear qi10
    try clear p10
    try clear p5
    try clear p8
    try clear q10
    try clear q5
    try clear q8
    obtain ⟨kq, x31_1, rfl, HA, HJ1, ⟨mc1, rfl⟩⟩ := hcut
    cases kq with
    | zero => exact absurd HA.out (by simp [correctorref15_Int.j0])
    | succ kj1 =>
      have H := HA.out
      clear HA
      simp only [correctorref15_Int.j0] at H
      by_cases c11 : x31_1 = true
      · subst c11
        have H1 : (if 1 < (a0.size : Int) then (if (bt a0 1) = 120 then (if 2 ≤ (a0.size : Int) then ((correctorref15_number.f kj1 (a0.extract 2 a0.size) 16 9223372036854775807).bind fun bt279 => (some (wrap64 (bt279.1), bt279.2))) else (none)) else (if 2 ≤ (a0.size : Int) then ((correctorref15_number.f kj1 (a0.extract 2 a0.size) 8 9223372036854775807).bind fun bt281 => (some (wrap64 (bt281.1), bt281.2))) else (none))) else (none)) = some (r1, r2) := by rw [if_pos rfl] at H; exact H
        clear H
        have H := H1
        clear H1
        by_cases c12 : 1 < (a0.size : Int)
        · rw [if_pos c12] at H
          have c12b0 : decide (1 < (a0.size : Int)) = true := decide_eq_true c12
          have c12b1 : decide (1 < a0.size) = true := decide_eq_true (by omega)
          clear c12
          by_cases c14 : (bt a0 1) = 120
          · rw [if_pos c14] at H
            have c14b0 : ((bt a0 1) == 120) = true := beq_iff_eq.mpr c14
            have c14b1 : ((bt a0 1) != 120) = false := bne_eq_false_iff_eq.mpr c14
            clear c14
            by_cases c15 : 2 ≤ (a0.size : Int)
            · rw [if_pos c15] at H
              have c15b0 := eq_true c15
              have c15b1 : decide (2 ≤ (a0.size : Int)) = true := decide_eq_true c15
              clear c15
              replace H := Option.bind_eq_some_iff.mp H
              obtain ⟨⟨t279, t280⟩, A160, H⟩ := H
              replace H : (some (wrap64 (t279), t280)) = some (r1, r2) := H
              have A16 := Aside0.mk A160
              clear A160
              simp only [Option.some.injEq, Prod.mk.injEq] at H
              obtain ⟨rfl, rfl⟩ := H
              have p13 : 0 ≤ (1 : Int) := (by omega)
              have q13 : 1 < a0.size := (by have : (1 : Int) < (a0.size : Int) := of_decide_eq_true (by first | (with_reducible assumption) | assumption); omega)
              have hx13 : ∀ h : 1 < a0.size, ((a0[1]'h).toNat : Int) = bt a0 1 := bt_at a0 1
              clear p13
              have qi13 : (1 < (a0.size : Int)) = True := eq_true (of_decide_eq_true (by first | (with_reducible assumption) | assumption))
              replace q13 := eq_true q13
              go_wp2_with (first | ((with_reducible refine gate_callee (f := 45) rfl ?_); refine goesL_ (some 39) rfl rfl Try.func45 (by kernel_rfl) rfl #[.string (a0.extract 2 a0.size), .int .i64 16, .int .u64 9223372036854775807] rfl (by (try simp only [List.map_toArray, List.map_cons, List.map_nil]); first | done | rfl | (simp only [List.length_drop, List.length_take]; rfl) | (simp only [ByteArray.size_extract, Nat.min_self]; done) | (simp only [ByteArray.size_extract, Nat.min_self]; rfl)) ?_; (with_reducible refine (correctorref15_number.calls kj1 (a0.extract 2 a0.size) 16 9223372036854775807 t279 t280 _ A16.out).mono ?_); rintro e w' ⟨rfl, ⟨nd, rfl⟩⟩; refine ⟨_, rfl, ?_⟩))
              go_ret2
              exact ⟨by first | rfl | (simp; done) | (simp [*]; done), by repeat (first | exact Drawn0.refl _ | apply Drawn0.step)⟩
            · rw [if_neg c15] at H
              exact absurd H (by simp)
          · rw [if_neg c14] at H
            have c14b0 : ((bt a0 1) == 120) = false := beq_eq_false_iff_ne.mpr c14
            have c14b1 : ((bt a0 1) != 120) = true := bne_iff_ne.mpr c14
            by_cases c17 : 2 ≤ (a0.size : Int)
            · rw [if_pos c17] at H
              have c17b0 := eq_true c17
              have c17b1 : decide (2 ≤ (a0.size : Int)) = true := decide_eq_true c17
              clear c17
              replace H := Option.bind_eq_some_iff.mp H
              obtain ⟨⟨t281, t282⟩, A180, H⟩ := H
              replace H : (some (wrap64 (t281), t282)) = some (r1, r2) := H
              have A18 := Aside0.mk A180
              clear A180
              simp only [Option.some.injEq, Prod.mk.injEq] at H
              obtain ⟨rfl, rfl⟩ := H
              have p13 : 0 ≤ (1 : Int) := (by omega)
              have q13 : 1 < a0.size := (by have : (1 : Int) < (a0.size : Int) := of_decide_eq_true (by first | (with_reducible assumption) | assumption); omega)
              have hx13 : ∀ h : 1 < a0.size, ((a0[1]'h).toNat : Int) = bt a0 1 := bt_at a0 1
              clear p13
              have qi13 : (1 < (a0.size : Int)) = True := eq_true (of_decide_eq_true (by first | (with_reducible assumption) | assumption))
              replace q13 := eq_true q13
              go_wp2_with (first | ((with_reducible refine gate_callee (f := 45) rfl ?_); refine goesL_ (some 39) rfl rfl Try.func45 (by kernel_rfl) rfl #[.string (a0.extract 2 a0.size), .int .i64 8, .int .u64 9223372036854775807] rfl (by (try simp only [List.map_toArray, List.map_cons, List.map_nil]); first | done | rfl | (simp only [List.length_drop, List.length_take]; rfl) | (simp only [ByteArray.size_extract, Nat.min_self]; done) | (simp only [ByteArray.size_extract, Nat.min_self]; rfl)) ?_; (with_reducible refine (correctorref15_number.calls kj1 (a0.extract 2 a0.size) 8 9223372036854775807 t281 t282 _ A18.out).mono ?_); rintro e w' ⟨rfl, ⟨nd, rfl⟩⟩; refine ⟨_, rfl, ?_⟩))
              go_ret2
              exact ⟨by first | rfl | (simp; done) | (simp [*]; done), by repeat (first | exact Drawn0.refl _ | apply Drawn0.step)⟩
            · rw [if_neg c17] at H
              exact absurd H (by simp)
        · rw [if_neg c12] at H
          exact absurd H (by simp)
      · replace c11 := Bool.eq_false_iff.mpr c11
        subst c11
        have H1 : ((correctorref15_signed.f a0).bind fun bt283 => (if bt283.2.1 = true then ((correctorref15_number.f kj1 bt283.2.2 10 9223372036854775808).bind fun bt286 => (some (wrap64 (IntKind.u64.wrap (-bt286.1)), bt286.2))) else ((correctorref15_number.f kj1 bt283.2.2 10 9223372036854775807).bind fun bt288 => (some (wrap64 (bt288.1), bt288.2))))) = some (r1, r2) := by rw [if_neg (show ¬ (false = true) by decide)] at H; exact H
        clear H
        have H := H1
        clear H1
        replace H := Option.bind_eq_some_iff.mp H
        obtain ⟨⟨t283, t284, t285⟩, A190, H⟩ := H
        replace H : (if t284 = true then ((correctorref15_number.f kj1 t285 10 9223372036854775808).bind fun bt286 => (some (wrap64 (IntKind.u64.wrap (-bt286.1)), bt286.2))) else ((correctorref15_number.f kj1 t285 10 9223372036854775807).bind fun bt288 => (some (wrap64 (bt288.1), bt288.2)))) = some (r1, r2) := H
        have A19 := Aside0.mk A190
        clear A190
        by_cases c20 : t284 = true
        · subst c20
          have H1 : ((correctorref15_number.f kj1 t285 10 9223372036854775808).bind fun bt286 => (some (wrap64 (IntKind.u64.wrap (-bt286.1)), bt286.2))) = some (r1, r2) := by rw [if_pos rfl] at H; exact H
          clear H
          have H := H1
          clear H1
          replace H := Option.bind_eq_some_iff.mp H
          obtain ⟨⟨t286, t287⟩, A210, H⟩ := H
          replace H : (some (wrap64 (IntKind.u64.wrap (-t286)), t287)) = some (r1, r2) := H
          have A21 := Aside0.mk A210
          clear A210
          simp only [Option.some.injEq, Prod.mk.injEq] at H
          obtain ⟨rfl, rfl⟩ := H
          go_wp2_with (first | ((with_reducible refine gate_callee (f := 46) rfl ?_); refine goesL_ (some 47) rfl rfl Try.func46 (by kernel_rfl) rfl #[.string a0] rfl (by (try simp only [List.map_toArray, List.map_cons, List.map_nil]); first | done | rfl | (simp only [List.length_drop, List.length_take]; rfl) | (simp only [ByteArray.size_extract, Nat.min_self]; done) | (simp only [ByteArray.size_extract, Nat.min_self]; rfl)) ?_; (with_reducible refine (correctorref15_signed.calls a0 t283 true t285 _ A19.out).mono ?_); rintro e w' ⟨rfl, ⟨nd, rfl⟩⟩; refine ⟨_, rfl, ?_⟩) | ((with_reducible refine gate_callee (f := 45) rfl ?_); refine goesL_ (some 54) rfl rfl Try.func45 (by kernel_rfl) rfl #[.string t285, .int .i64 10, .int .u64 9223372036854775808] rfl (by (try simp only [List.map_toArray, List.map_cons, List.map_nil]); first | done | rfl | (simp only [List.length_drop, List.length_take]; rfl) | (simp only [ByteArray.size_extract, Nat.min_self]; done) | (simp only [ByteArray.size_extract, Nat.min_self]; rfl)) ?_; (with_reducible refine (correctorref15_number.calls kj1 t285 10 9223372036854775808 t286 t287 _ A21.out).mono ?_); rintro e w' ⟨rfl, ⟨nd, rfl⟩⟩; refine ⟨_, rfl, ?_⟩))
          go_ret2
          exact ⟨by first | rfl | (simp; done) | (simp [*]; done), by repeat (first | exact Drawn0.refl _ | apply Drawn0.step)⟩
        · replace c20 := Bool.eq_false_iff.mpr c20
          subst c20
          have H1 : ((correctorref15_number.f kj1 t285 10 9223372036854775807).bind fun bt288 => (some (wrap64 (bt288.1), bt288.2))) = some (r1, r2) := by rw [if_neg (show ¬ (false = true) by decide)] at H; exact H
          clear H
          have H := H1
          clear H1
          replace H := Option.bind_eq_some_iff.mp H
          obtain ⟨⟨t288, t289⟩, A220, H⟩ := H
          replace H : (some (wrap64 (t288), t289)) = some (r1, r2) := H
          have A22 := Aside0.mk A220
          clear A220
          simp only [Option.some.injEq, Prod.mk.injEq] at H
          obtain ⟨rfl, rfl⟩ := H
          go_wp2_with (first | ((with_reducible refine gate_callee (f := 46) rfl ?_); refine goesL_ (some 47) rfl rfl Try.func46 (by kernel_rfl) rfl #[.string a0] rfl (by (try simp only [List.map_toArray, List.map_cons, List.map_nil]); first | done | rfl | (simp only [List.length_drop, List.length_take]; rfl) | (simp only [ByteArray.size_extract, Nat.min_self]; done) | (simp only [ByteArray.size_extract, Nat.min_self]; rfl)) ?_; (with_reducible refine (correctorref15_signed.calls a0 t283 false t285 _ A19.out).mono ?_); rintro e w' ⟨rfl, ⟨nd, rfl⟩⟩; refine ⟨_, rfl, ?_⟩) | ((with_reducible refine gate_callee (f := 45) rfl ?_); refine goesL_ (some 63) rfl rfl Try.func45 (by kernel_rfl) rfl #[.string t285, .int .i64 10, .int .u64 9223372036854775807] rfl (by (try simp only [List.map_toArray, List.map_cons, List.map_nil]); first | done | rfl | (simp only [List.length_drop, List.length_take]; rfl) | (simp only [ByteArray.size_extract, Nat.min_self]; done) | (simp only [ByteArray.size_extract, Nat.min_self]; rfl)) ?_; (with_reducible refine (correctorref15_number.calls kj1 t285 10 9223372036854775807 t288 t289 _ A22.out).mono ?_); rintro e w' ⟨rfl, ⟨nd, rfl⟩⟩; refine ⟨_, rfl, ?_⟩))
          go_ret2
          exact ⟨by first | rfl | (simp; done) | (simp [*]; done), by repeat (first | exact Drawn0.refl _ | apply Drawn0.step)⟩

/-! ### correctorref15_in: function 47 -/
def correctorref15_in.l0 : Nat → ByteArray → List ByteArray → Int → Option (Bool)
  | 0, _, _, _ => none
  | k + 1, x0, x1, x5 => if x5 < (x1.length : Int) then (if 0 ≤ x5 then (if (rdOf ByteArray.empty x1 x5).toList = x0.toList then (some true) else (correctorref15_in.l0 k x0 x1 (wrap64 (x5 + 1)))) else (none)) else (some false)
def correctorref15_in.f (k : Nat) (a0 : ByteArray) (l1 : List ByteArray) : Option (Bool) := correctorref15_in.l0 k a0 l1 0
theorem correctorref15_in.mono_l : ∀ k, (∀ y0 y1 y2, LeO (correctorref15_in.l0 k y0 y1 y2) (correctorref15_in.l0 (k + 1) y0 y1 y2))
  | 0 => fun _ _ _ r h => by simp [correctorref15_in.l0] at h
  | k + 1 => by
    have ih0 := correctorref15_in.mono_l k
    · intro y0 y1 y2
      unfold correctorref15_in.l0
      repeat' first
      | (with_reducible exact ih0 _ _ _)
      | (with_reducible exact LeO.refl _)
      | (with_reducible exact LeO.none _)
      | (with_reducible refine LeO.ite ?_ ?_)
      | (with_reducible refine LeO.bind ?_ (fun _ => ?_))
      | exact ih0 _ _ _
      | exact LeO.none _
      | refine LeO.ite ?_ ?_
      | refine LeO.bind ?_ (fun _ => ?_)
theorem correctorref15_in.mono : ∀ a0 a1 k, LeO (correctorref15_in.f k a0 a1) (correctorref15_in.f (k + 1) a0 a1) := by
  intro a0 a1 k
  have ih0 := correctorref15_in.mono_l k
  unfold correctorref15_in.f
  repeat' first
      | (with_reducible exact ih0 _ _ _)
      | (with_reducible exact LeO.refl _)
      | (with_reducible exact LeO.none _)
      | (with_reducible refine LeO.ite ?_ ?_)
      | (with_reducible refine LeO.bind ?_ (fun _ => ?_))
      | exact ih0 _ _ _
      | exact LeO.none _
      | refine LeO.ite ?_ ?_
      | refine LeO.bind ?_ (fun _ => ?_)
set_option maxHeartbeats 8000000 in
set_option maxRecDepth 100000 in
theorem correctorref15_in.calls (k : Nat) (a0 : ByteArray) (A1 : Option Addr) (c1 : Nat) (l1 : List ByteArray) (r : Bool) (w : World) (hr1 : Kd.C Kd.string w A1 l1.length l1) (hc1 : l1.length ≤ c1) (h : correctorref15_in.f k a0 l1 = some r) :
    Calls Try.prog 47 #[.string a0, .slice A1 l1.length c1] w fun e w' => e = .returned (.bool r) ∧ Drawn0 w w' := by
  have HR1 := Aside0.mk hr1
  have HC1 := Aside0.mk hc1
  clear hr1 hc1
  have H : (correctorref15_in.l0 k a0 l1 0) = some r := h
  clear h
  have H' := Aside0.mk H
  clear H
  go_enter Try.func47, Try.ntmps47
  go_wp2
  go_loopg [5] k (fun kq v5 w' => ∃ (x5_1 : Int), v5 = .int .i64 x5_1 ∧ Aside0 (correctorref15_in.l0 kq a0 l1 x5_1 = some r) ∧ Aside0 (kq ≤ k) ∧ Drawn0 w w')
  case atStart => exact ⟨(0), (by first | rfl | (simp; done) | (simp [*]; done)), H', ⟨Nat.le_refl _⟩, by repeat (first | exact Drawn0.refl _ | apply Drawn0.step)⟩
  case round =>
    clear H'
    try clear c1
    try clear p2
    obtain ⟨x5_1, rfl, HA, HK1, ⟨m1, rfl⟩⟩ := hrel
    cases gk with
    | zero => exact absurd HA.out (by simp [correctorref15_in.l0])
    | succ k1 =>
      have H := HA.out
      clear HA
      simp only [correctorref15_in.l0] at H
      by_cases c3 : x5_1 < (l1.length : Int)
      · rw [if_pos c3] at H
        have c3b0 : decide (x5_1 < (l1.length : Int)) = true := decide_eq_true c3
        clear c3
        by_cases c4 : 0 ≤ x5_1
        · rw [if_pos c4] at H
          have c4b0 : decide (0 ≤ x5_1) = true := decide_eq_true c4
          clear c4
          by_cases c5 : (rdOf ByteArray.empty l1 x5_1).toList = a0.toList
          · rw [if_pos c5] at H
            have c5b0 : ((rdOf ByteArray.empty l1 x5_1).toList == a0.toList) = true := beq_iff_eq.mpr c5
            have c5b1 : ((rdOf ByteArray.empty l1 x5_1).toList != a0.toList) = false := bne_eq_false_iff_eq.mpr c5
            clear c5
            obtain rfl := Option.some.inj H
            have p290 : 0 ≤ (x5_1 : Int) := of_decide_eq_true (by first | (with_reducible assumption) | assumption)
            have q290 : x5_1 < (l1.length : Int) := of_decide_eq_true (by first | (with_reducible assumption) | assumption)
            obtain ⟨ad290, e290, hx290_0⟩ := Kd.at_string HR1.out x5_1 p290 q290
            cases e290
            replace p290 := eq_true p290
            replace q290 := eq_true q290
            go_wp2
            go_ret
            exact ⟨by first | rfl | (simp; done) | (simp [*]; done), by repeat (first | exact Drawn0.refl _ | apply Drawn0.step)⟩
          · rw [if_neg c5] at H
            have c5b0 : ((rdOf ByteArray.empty l1 x5_1).toList == a0.toList) = false := beq_eq_false_iff_ne.mpr c5
            have c5b1 : ((rdOf ByteArray.empty l1 x5_1).toList != a0.toList) = true := bne_iff_ne.mpr c5
            have H' := Aside0.mk H
            clear H
            have p290 : 0 ≤ (x5_1 : Int) := of_decide_eq_true (by first | (with_reducible assumption) | assumption)
            have q290 : x5_1 < (l1.length : Int) := of_decide_eq_true (by first | (with_reducible assumption) | assumption)
            obtain ⟨ad290, e290, hx290_0⟩ := Kd.at_string HR1.out x5_1 p290 q290
            cases e290
            replace p290 := eq_true p290
            replace q290 := eq_true q290
            go_wp2
            go_roundg k1
            case measure => have := HK1.out; omega
            case rel => exact ⟨(wrap64 (x5_1 + 1)), (by first | rfl | (simp; done) | (simp [*]; done)), H', ⟨by have := HK1.out; omega⟩, by repeat (first | exact Drawn0.refl _ | apply Drawn0.step)⟩
        · rw [if_neg c4] at H
          exact absurd H (by simp)
      · rw [if_neg c3] at H
        have c3b0 : decide (x5_1 < (l1.length : Int)) = false := decide_eq_false c3
        clear c3
        obtain rfl := Option.some.inj H
        go_wp2
        go_ret
        exact ⟨by first | rfl | (simp; done) | (simp [*]; done), by repeat (first | exact Drawn0.refl _ | apply Drawn0.step)⟩

/-! ### correctorref15_digits: function 55 -/
def correctorref15_digits.l0 : Nat → ByteArray → Int → Option (Int)
  | 0, _, _ => none
  | k + 1, x0, x3 => if x3 < (x0.size : Int) then (if 0 ≤ x3 then (if (bt x0 x3) ≥ 48 then (if (bt x0 x3) ≤ 57 then (correctorref15_digits.l0 k x0 (wrap64 (x3 + 1))) else (some x3)) else (some x3)) else (none)) else (some x3)
def correctorref15_digits.f (k : Nat) (a0 : ByteArray) : Option (Int) := correctorref15_digits.l0 k a0 0
theorem correctorref15_digits.mono_l : ∀ k, (∀ y0 y1, LeO (correctorref15_digits.l0 k y0 y1) (correctorref15_digits.l0 (k + 1) y0 y1))
  | 0 => fun _ _ r h => by simp [correctorref15_digits.l0] at h
  | k + 1 => by
    have ih0 := correctorref15_digits.mono_l k
    · intro y0 y1
      unfold correctorref15_digits.l0
      repeat' first
      | (with_reducible exact ih0 _ _)
      | (with_reducible exact LeO.refl _)
      | (with_reducible exact LeO.none _)
      | (with_reducible refine LeO.ite ?_ ?_)
      | (with_reducible refine LeO.bind ?_ (fun _ => ?_))
      | exact ih0 _ _
      | exact LeO.none _
      | refine LeO.ite ?_ ?_
      | refine LeO.bind ?_ (fun _ => ?_)
theorem correctorref15_digits.mono : ∀ a0 k, LeO (correctorref15_digits.f k a0) (correctorref15_digits.f (k + 1) a0) := by
  intro a0 k
  have ih0 := correctorref15_digits.mono_l k
  unfold correctorref15_digits.f
  repeat' first
      | (with_reducible exact ih0 _ _)
      | (with_reducible exact LeO.refl _)
      | (with_reducible exact LeO.none _)
      | (with_reducible refine LeO.ite ?_ ?_)
      | (with_reducible refine LeO.bind ?_ (fun _ => ?_))
      | exact ih0 _ _
      | exact LeO.none _
      | refine LeO.ite ?_ ?_
      | refine LeO.bind ?_ (fun _ => ?_)
set_option maxHeartbeats 8000000 in
set_option maxRecDepth 100000 in
theorem correctorref15_digits.calls (k : Nat) (a0 : ByteArray) (r : Int) (w : World) (h : correctorref15_digits.f k a0 = some r) :
    Calls Try.prog 55 #[.string a0] w fun e w' => e = .returned (.int .i64 r) ∧ Drawn0 w w' := by
  have H : (correctorref15_digits.l0 k a0 0) = some r := h
  clear h
  have H' := Aside0.mk H
  clear H
  go_enter Try.func55, Try.ntmps55
  go_wp2
  go_loopg [3] k (fun kq v3 w' => ∃ (x3_1 : Int), v3 = .int .i64 x3_1 ∧ Aside0 (correctorref15_digits.l0 kq a0 x3_1 = some r) ∧ Aside0 (kq ≤ k) ∧ Drawn0 w w')
  case atStart => exact ⟨(0), (by first | rfl | (simp; done) | (simp [*]; done)), H', ⟨Nat.le_refl _⟩, by repeat (first | exact Drawn0.refl _ | apply Drawn0.step)⟩
  case round =>
    clear H'
    obtain ⟨x3_1, rfl, HA, HK1, ⟨m1, rfl⟩⟩ := hrel
    cases gk with
    | zero => exact absurd HA.out (by simp [correctorref15_digits.l0])
    | succ k1 =>
      have H := HA.out
      clear HA
      simp only [correctorref15_digits.l0] at H
      by_cases c2 : x3_1 < (a0.size : Int)
      · rw [if_pos c2] at H
        have c2b0 : decide (x3_1 < (a0.size : Int)) = true := decide_eq_true c2
        clear c2
        by_cases c3 : 0 ≤ x3_1
        · rw [if_pos c3] at H
          have c3b0 : decide (0 ≤ x3_1) = true := decide_eq_true c3
          clear c3
          by_cases c5 : (bt a0 x3_1) ≥ 48
          · rw [if_pos c5] at H
            have c5b0 : decide (48 ≤ (bt a0 x3_1)) = true := decide_eq_true c5
            clear c5
            by_cases c7 : (bt a0 x3_1) ≤ 57
            · rw [if_pos c7] at H
              have c7b0 : decide ((bt a0 x3_1) ≤ 57) = true := decide_eq_true c7
              clear c7
              have H' := Aside0.mk H
              clear H
              have p4 : 0 ≤ (x3_1 : Int) := of_decide_eq_true (by first | (with_reducible assumption) | assumption)
              have q4 : x3_1 < (a0.size : Int) := of_decide_eq_true (by first | (with_reducible assumption) | assumption)
              have hx4 := bt_at a0 x3_1
              replace p4 := eq_true p4
              replace q4 := eq_true q4
              have p6 : 0 ≤ (x3_1 : Int) := of_decide_eq_true (by first | (with_reducible assumption) | assumption)
              have q6 : x3_1 < (a0.size : Int) := of_decide_eq_true (by first | (with_reducible assumption) | assumption)
              have hx6 := bt_at a0 x3_1
              replace p6 := eq_true p6
              replace q6 := eq_true q6
              go_wp2
              go_roundg k1
              case measure => have := HK1.out; omega
              case rel => exact ⟨(wrap64 (x3_1 + 1)), (by first | rfl | (simp; done) | (simp [*]; done)), H', ⟨by have := HK1.out; omega⟩, by repeat (first | exact Drawn0.refl _ | apply Drawn0.step)⟩
            · rw [if_neg c7] at H
              have c7b0 : decide ((bt a0 x3_1) ≤ 57) = false := decide_eq_false c7
              clear c7
              obtain rfl := Option.some.inj H
              have p4 : 0 ≤ (x3_1 : Int) := of_decide_eq_true (by first | (with_reducible assumption) | assumption)
              have q4 : x3_1 < (a0.size : Int) := of_decide_eq_true (by first | (with_reducible assumption) | assumption)
              have hx4 := bt_at a0 x3_1
              replace p4 := eq_true p4
              replace q4 := eq_true q4
              have p6 : 0 ≤ (x3_1 : Int) := of_decide_eq_true (by first | (with_reducible assumption) | assumption)
              have q6 : x3_1 < (a0.size : Int) := of_decide_eq_true (by first | (with_reducible assumption) | assumption)
              have hx6 := bt_at a0 x3_1
              replace p6 := eq_true p6
              replace q6 := eq_true q6
              go_wp2
              go_ret
              exact ⟨by first | rfl | (simp; done) | (simp [*]; done), by repeat (first | exact Drawn0.refl _ | apply Drawn0.step)⟩
          · rw [if_neg c5] at H
            have c5b0 : decide (48 ≤ (bt a0 x3_1)) = false := decide_eq_false c5
            clear c5
            obtain rfl := Option.some.inj H
            have p4 : 0 ≤ (x3_1 : Int) := of_decide_eq_true (by first | (with_reducible assumption) | assumption)
            have q4 : x3_1 < (a0.size : Int) := of_decide_eq_true (by first | (with_reducible assumption) | assumption)
            have hx4 := bt_at a0 x3_1
            replace p4 := eq_true p4
            replace q4 := eq_true q4
            go_wp2
            go_ret
            exact ⟨by first | rfl | (simp; done) | (simp [*]; done), by repeat (first | exact Drawn0.refl _ | apply Drawn0.step)⟩
        · rw [if_neg c3] at H
          exact absurd H (by simp)
      · rw [if_neg c2] at H
        have c2b0 : decide (x3_1 < (a0.size : Int)) = false := decide_eq_false c2
        clear c2
        obtain rfl := Option.some.inj H
        go_wp2
        go_ret
        exact ⟨by first | rfl | (simp; done) | (simp [*]; done), by repeat (first | exact Drawn0.refl _ | apply Drawn0.step)⟩

/-! ### correctorref15_float: function 48 -/
mutual
def correctorref15_float.j0 : Nat → ByteArray → Int → Bool → Option (Bool)
  | 0, _, _, _ => none
  | k + 1, x0, x3, x29 => if x29 = true then (if 1 ≤ (x0.size : Int) then ((correctorref15_digits.f k (x0.extract 1 x0.size)).bind fun t303 => (if 0 ≤ (wrap64 (1 + t303)) then (if (wrap64 (1 + t303)) ≤ (x0.size : Int) then (correctorref15_float.j1 k (x0.extract ((wrap64 (1 + t303)) : Int).toNat x0.size) (wrap64 (x3 + t303))) else (none)) else (none))) else (none)) else (correctorref15_float.j1 k x0 x3)
def correctorref15_float.j1 : Nat → ByteArray → Int → Option (Bool)
  | 0, _, _ => none
  | k + 1, x0, x3 => if x3 = 0 then (some false) else (if (x0.size : Int) > 0 then (if 0 < (x0.size : Int) then (if (bt x0 0) = 101 then (correctorref15_float.j2 k x0 true) else (correctorref15_float.j2 k x0 ((bt x0 0) == 69))) else (none)) else (correctorref15_float.j2 k x0 false))
def correctorref15_float.j2 : Nat → ByteArray → Bool → Option (Bool)
  | 0, _, _ => none
  | k + 1, x0, x54 => if x54 = true then (if 1 ≤ (x0.size : Int) then ((correctorref15_signed.f (x0.extract 1 x0.size)).bind fun bt304 => (if (bt304.2.2.size : Int) > 0 then ((correctorref15_digits.f k bt304.2.2).bind fun t307 => (some (t307 == (bt304.2.2.size : Int)))) else (some false))) else (none)) else (some x0.toList.isEmpty)
end
def correctorref15_float.f (k : Nat) (a0 : ByteArray) : Option (Bool) := (correctorref15_in.f k a0 (([(⟨#[46, 110, 97, 110]⟩ : ByteArray), (⟨#[46, 78, 97, 78]⟩ : ByteArray), (⟨#[46, 78, 65, 78]⟩ : ByteArray)] : List ByteArray))).bind fun t294 => (if t294 = true then (some true) else ((correctorref15_signed.f a0).bind fun bt295 => ((correctorref15_in.f k bt295.2.2 (([(⟨#[46, 105, 110, 102]⟩ : ByteArray), (⟨#[46, 73, 110, 102]⟩ : ByteArray), (⟨#[46, 73, 78, 70]⟩ : ByteArray)] : List ByteArray))).bind fun t301 => (if t301 = true then (some true) else ((correctorref15_digits.f k bt295.2.2).bind fun t302 => (if 0 ≤ t302 then (if t302 ≤ (bt295.2.2.size : Int) then (if ((bt295.2.2.extract (t302 : Int).toNat bt295.2.2.size).size : Int) > 0 then (if 0 < ((bt295.2.2.extract (t302 : Int).toNat bt295.2.2.size).size : Int) then (correctorref15_float.j0 k (bt295.2.2.extract (t302 : Int).toNat bt295.2.2.size) t302 ((bt (bt295.2.2.extract (t302 : Int).toNat bt295.2.2.size) 0) == 46)) else (none)) else (correctorref15_float.j0 k (bt295.2.2.extract (t302 : Int).toNat bt295.2.2.size) t302 false)) else (none)) else (none)))))))
theorem correctorref15_float.mono_l : ∀ k, (∀ y0 y1 y2, LeO (correctorref15_float.j0 k y0 y1 y2) (correctorref15_float.j0 (k + 1) y0 y1 y2)) ∧ (∀ y0 y1, LeO (correctorref15_float.j1 k y0 y1) (correctorref15_float.j1 (k + 1) y0 y1)) ∧ (∀ y0 y1, LeO (correctorref15_float.j2 k y0 y1) (correctorref15_float.j2 (k + 1) y0 y1))
  | 0 => ⟨fun _ _ _ r h => by simp [correctorref15_float.j0] at h, fun _ _ r h => by simp [correctorref15_float.j1] at h, fun _ _ r h => by simp [correctorref15_float.j2] at h⟩
  | k + 1 => by
    obtain ⟨ih0, ih1, ih2⟩ := correctorref15_float.mono_l k
    refine ⟨?_, ?_, ?_⟩
    · intro y0 y1 y2
      unfold correctorref15_float.j0
      repeat' first
      | (with_reducible exact ih0 _ _ _)
      | (with_reducible exact ih1 _ _)
      | (with_reducible exact ih2 _ _)
      | (with_reducible exact correctorref15_digits.mono _ _)
      | (with_reducible exact correctorref15_in.mono _ _ _)
      | (with_reducible exact LeO.refl _)
      | (with_reducible exact LeO.none _)
      | (with_reducible refine LeO.ite ?_ ?_)
      | (with_reducible refine LeO.bind ?_ (fun _ => ?_))
      | exact ih0 _ _ _
      | exact ih1 _ _
      | exact ih2 _ _
      | exact correctorref15_digits.mono _ _
      | exact correctorref15_in.mono _ _ _
      | exact LeO.none _
      | refine LeO.ite ?_ ?_
      | refine LeO.bind ?_ (fun _ => ?_)
    · intro y0 y1
      unfold correctorref15_float.j1
      repeat' first
      | (with_reducible exact ih0 _ _ _)
      | (with_reducible exact ih1 _ _)
      | (with_reducible exact ih2 _ _)
      | (with_reducible exact correctorref15_digits.mono _ _)
      | (with_reducible exact correctorref15_in.mono _ _ _)
      | (with_reducible exact LeO.refl _)
      | (with_reducible exact LeO.none _)
      | (with_reducible refine LeO.ite ?_ ?_)
      | (with_reducible refine LeO.bind ?_ (fun _ => ?_))
      | exact ih0 _ _ _
      | exact ih1 _ _
      | exact ih2 _ _
      | exact correctorref15_digits.mono _ _
      | exact correctorref15_in.mono _ _ _
      | exact LeO.none _
      | refine LeO.ite ?_ ?_
      | refine LeO.bind ?_ (fun _ => ?_)
    · intro y0 y1
      unfold correctorref15_float.j2
      repeat' first
      | (with_reducible exact ih0 _ _ _)
      | (with_reducible exact ih1 _ _)
      | (with_reducible exact ih2 _ _)
      | (with_reducible exact correctorref15_digits.mono _ _)
      | (with_reducible exact correctorref15_in.mono _ _ _)
      | (with_reducible exact LeO.refl _)
      | (with_reducible exact LeO.none _)
      | (with_reducible refine LeO.ite ?_ ?_)
      | (with_reducible refine LeO.bind ?_ (fun _ => ?_))
      | exact ih0 _ _ _
      | exact ih1 _ _
      | exact ih2 _ _
      | exact correctorref15_digits.mono _ _
      | exact correctorref15_in.mono _ _ _
      | exact LeO.none _
      | refine LeO.ite ?_ ?_
      | refine LeO.bind ?_ (fun _ => ?_)
theorem correctorref15_float.mono : ∀ a0 k, LeO (correctorref15_float.f k a0) (correctorref15_float.f (k + 1) a0) := by
  intro a0 k
  obtain ⟨ih0, ih1, ih2⟩ := correctorref15_float.mono_l k
  unfold correctorref15_float.f
  repeat' first
      | (with_reducible exact ih0 _ _ _)
      | (with_reducible exact ih1 _ _)
      | (with_reducible exact ih2 _ _)
      | (with_reducible exact correctorref15_digits.mono _ _)
      | (with_reducible exact correctorref15_in.mono _ _ _)
      | (with_reducible exact LeO.refl _)
      | (with_reducible exact LeO.none _)
      | (with_reducible refine LeO.ite ?_ ?_)
      | (with_reducible refine LeO.bind ?_ (fun _ => ?_))
      | exact ih0 _ _ _
      | exact ih1 _ _
      | exact ih2 _ _
      | exact correctorref15_digits.mono _ _
      | exact correctorref15_in.mono _ _ _
      | exact LeO.none _
      | refine LeO.ite ?_ ?_
      | refine LeO.bind ?_ (fun _ => ?_)
set_option maxHeartbeats 8000000 in
set_option maxRecDepth 100000 in
theorem correctorref15_float.calls (k : Nat) (a0 : ByteArray) (r : Bool) (w : World) (h : correctorref15_float.f k a0 = some r) :
    Calls Try.prog 48 #[.string a0] w fun e w' => e = .returned (.bool r) ∧ Below w.heap.size w w' := by
  have HB := Aside0.mk (Below.refl w.heap.size w)
  have H : ((correctorref15_in.f k a0 (([(⟨#[46, 110, 97, 110]⟩ : ByteArray), (⟨#[46, 78, 97, 78]⟩ : ByteArray), (⟨#[46, 78, 65, 78]⟩ : ByteArray)] : List ByteArray))).bind fun t294 => (if t294 = true then (some true) else ((correctorref15_signed.f a0).bind fun bt295 => ((correctorref15_in.f k bt295.2.2 (([(⟨#[46, 105, 110, 102]⟩ : ByteArray), (⟨#[46, 73, 110, 102]⟩ : ByteArray), (⟨#[46, 73, 78, 70]⟩ : ByteArray)] : List ByteArray))).bind fun t301 => (if t301 = true then (some true) else ((correctorref15_digits.f k bt295.2.2).bind fun t302 => (if 0 ≤ t302 then (if t302 ≤ (bt295.2.2.size : Int) then (if ((bt295.2.2.extract (t302 : Int).toNat bt295.2.2.size).size : Int) > 0 then (if 0 < ((bt295.2.2.extract (t302 : Int).toNat bt295.2.2.size).size : Int) then (correctorref15_float.j0 k (bt295.2.2.extract (t302 : Int).toNat bt295.2.2.size) t302 ((bt (bt295.2.2.extract (t302 : Int).toNat bt295.2.2.size) 0) == 46)) else (none)) else (correctorref15_float.j0 k (bt295.2.2.extract (t302 : Int).toNat bt295.2.2.size) t302 false)) else (none)) else (none)))))))) = some r := h
  clear h
  obtain ⟨y291, hy291⟩ : ∃ y_ : List ByteArray, y_ = (([(⟨#[46, 110, 97, 110]⟩ : ByteArray), (⟨#[46, 78, 97, 78]⟩ : ByteArray), (⟨#[46, 78, 65, 78]⟩ : ByteArray)] : List ByteArray)) := ⟨_, rfl⟩
  replace H : ((correctorref15_in.f k a0 y291).bind fun t294 => (if t294 = true then (some true) else ((correctorref15_signed.f a0).bind fun bt295 => ((correctorref15_in.f k bt295.2.2 (([(⟨#[46, 105, 110, 102]⟩ : ByteArray), (⟨#[46, 73, 110, 102]⟩ : ByteArray), (⟨#[46, 73, 78, 70]⟩ : ByteArray)] : List ByteArray))).bind fun t301 => (if t301 = true then (some true) else ((correctorref15_digits.f k bt295.2.2).bind fun t302 => (if 0 ≤ t302 then (if t302 ≤ (bt295.2.2.size : Int) then (if ((bt295.2.2.extract (t302 : Int).toNat bt295.2.2.size).size : Int) > 0 then (if 0 < ((bt295.2.2.extract (t302 : Int).toNat bt295.2.2.size).size : Int) then (correctorref15_float.j0 k (bt295.2.2.extract (t302 : Int).toNat bt295.2.2.size) t302 ((bt (bt295.2.2.extract (t302 : Int).toNat bt295.2.2.size) 0) == 46)) else (none)) else (correctorref15_float.j0 k (bt295.2.2.extract (t302 : Int).toNat bt295.2.2.size) t302 false)) else (none)) else (none)))))))) = some r := by first | (rw [hy291]; with_reducible exact H) | (have H2_ := (Option.bind_some _ _).symm.trans H; rw [hy291]; with_reducible exact H2_) | (have H2_ := (Option.bind_some _ _).symm.trans H; with_reducible exact H2_) | with_reducible exact H | (rw [hy291]; exact H) | exact H
  have Ny291 := Aside0.mk hy291
  clear hy291
  replace H := Option.bind_eq_some_iff.mp H
  obtain ⟨t294, A20, H⟩ := H
  replace H : (if t294 = true then (some true) else ((correctorref15_signed.f a0).bind fun bt295 => ((correctorref15_in.f k bt295.2.2 (([(⟨#[46, 105, 110, 102]⟩ : ByteArray), (⟨#[46, 73, 110, 102]⟩ : ByteArray), (⟨#[46, 73, 78, 70]⟩ : ByteArray)] : List ByteArray))).bind fun t301 => (if t301 = true then (some true) else ((correctorref15_digits.f k bt295.2.2).bind fun t302 => (if 0 ≤ t302 then (if t302 ≤ (bt295.2.2.size : Int) then (if ((bt295.2.2.extract (t302 : Int).toNat bt295.2.2.size).size : Int) > 0 then (if 0 < ((bt295.2.2.extract (t302 : Int).toNat bt295.2.2.size).size : Int) then (correctorref15_float.j0 k (bt295.2.2.extract (t302 : Int).toNat bt295.2.2.size) t302 ((bt (bt295.2.2.extract (t302 : Int).toNat bt295.2.2.size) 0) == 46)) else (none)) else (correctorref15_float.j0 k (bt295.2.2.extract (t302 : Int).toNat bt295.2.2.size) t302 false)) else (none)) else (none))))))) = some r := H
  have A2 := Aside0.mk A20
  clear A20
  by_cases c3 : t294 = true
  · subst c3
    have H1 : (some true) = some r := by rw [if_pos rfl] at H; exact H
    clear H
    have H := H1
    clear H1
    obtain rfl := Option.some.inj H
    go_enter Try.func48, Try.ntmps48
    go_wp2_with (first | ((with_reducible refine gate_dst (N := 6) rfl ?_); (try (refine gate_guard (by rfl) ?_; dsimp only)); refine Kd.R_lit Kd.string _ 9 ?hg (N := 6) ?hd (xs := ([(⟨#[46, 110, 97, 110]⟩ : ByteArray), (⟨#[46, 78, 97, 78]⟩ : ByteArray), (⟨#[46, 78, 65, 78]⟩ : ByteArray)] : List ByteArray)) (inner := [.string (⟨#[46, 110, 97, 110]⟩ : ByteArray), .string (⟨#[46, 78, 97, 78]⟩ : ByteArray), .string (⟨#[46, 78, 65, 78]⟩ : ByteArray)]) (ok := fun _ => True) (okp := fun _ => True) ?hr ?hp (fun _ hk => hk) trivial (Below.refl _ _) (Nat.le_refl _) (by simp) ?_; (case hd => rfl); (case hg => rfl); (case hr => first | (go_simp; done) | (go_simp; rfl)); (case hp => exact (Reps.one (show Kd.M Kd.string _ _ _ (⟨#[46, 110, 97, 110]⟩ : ByteArray) [.string (⟨#[46, 110, 97, 110]⟩ : ByteArray)] from rfl) (Reps.one (show Kd.M Kd.string _ _ _ (⟨#[46, 78, 97, 78]⟩ : ByteArray) [.string (⟨#[46, 78, 97, 78]⟩ : ByteArray)] from rfl) (Reps.one (show Kd.M Kd.string _ _ _ (⟨#[46, 78, 65, 78]⟩ : ByteArray) [.string (⟨#[46, 78, 65, 78]⟩ : ByteArray)] from rfl) (Reps.none _ _))))); intro v292 w4 ho5 hb hg_ hnew_; clear hg_ hnew_; (first | rw [← Ny291.out] at ho5 | (simp only [Int.reduceToNat] at ho5; rw [← Ny291.out] at ho5)); have n0_ := Aside0.mk (Kd.R_lower ho5 (below_size (by repeat (first | (with_reducible first | exact HB.out | apply below_alloc | apply pw_below_drewN | apply below_drew1) | exact HB.out)))); have n1_ := Aside0.mk (below_step (by repeat (first | (with_reducible first | exact HB.out | apply below_alloc | apply pw_below_drewN | apply below_drew1) | exact HB.out)) hb); clear HB; have HO293 := n0_; have HB := n1_; clear n0_ n1_; clear hb ho5; obtain ⟨Ao6, co6, eo6⟩ := Kd.R_slice HO293.out; subst eo6) | (go_at_call 47; (with_reducible refine (correctorref15_in.calls k a0 _ _ y291 true _ ?side1 ?side2 A2.out).mono ?_); (case side1 => repeat (first | exact (Kd.R_reads' HO293.out).2.2 | (with_reducible refine Kd.C_alloc ?_ _) | (with_reducible refine Kd.C_drewN ?_ _) | (with_reducible refine Kd.C_drew ?_))); (case side2 => exact (Kd.R_reads' HO293.out).2.1); rintro e w' ⟨rfl, ⟨nd, rfl⟩⟩; (try first | exact ⟨rfl, _, World.drewN_drewN _ _ _⟩ | exact ⟨rfl, _, Eq.trans (World.drewN_drewN _ _ _) (congrArg (World.drewN _) (Nat.add_assoc _ _ _))⟩)))
    repeat (go_quiet (first | ((with_reducible refine gate_dst (N := 6) rfl ?_); (try (refine gate_guard (by rfl) ?_; dsimp only)); refine Kd.R_lit Kd.string _ 9 ?hg (N := 6) ?hd (xs := ([(⟨#[46, 110, 97, 110]⟩ : ByteArray), (⟨#[46, 78, 97, 78]⟩ : ByteArray), (⟨#[46, 78, 65, 78]⟩ : ByteArray)] : List ByteArray)) (inner := [.string (⟨#[46, 110, 97, 110]⟩ : ByteArray), .string (⟨#[46, 78, 97, 78]⟩ : ByteArray), .string (⟨#[46, 78, 65, 78]⟩ : ByteArray)]) (ok := fun _ => True) (okp := fun _ => True) ?hr ?hp (fun _ hk => hk) trivial (Below.refl _ _) (Nat.le_refl _) (by simp) ?_; (case hd => rfl); (case hg => rfl); (case hr => first | (go_simp; done) | (go_simp; rfl)); (case hp => exact (Reps.one (show Kd.M Kd.string _ _ _ (⟨#[46, 110, 97, 110]⟩ : ByteArray) [.string (⟨#[46, 110, 97, 110]⟩ : ByteArray)] from rfl) (Reps.one (show Kd.M Kd.string _ _ _ (⟨#[46, 78, 97, 78]⟩ : ByteArray) [.string (⟨#[46, 78, 97, 78]⟩ : ByteArray)] from rfl) (Reps.one (show Kd.M Kd.string _ _ _ (⟨#[46, 78, 65, 78]⟩ : ByteArray) [.string (⟨#[46, 78, 65, 78]⟩ : ByteArray)] from rfl) (Reps.none _ _))))); intro v292 w4 ho5 hb hg_ hnew_; clear hg_ hnew_; (first | rw [← Ny291.out] at ho5 | (simp only [Int.reduceToNat] at ho5; rw [← Ny291.out] at ho5)); have n0_ := Aside0.mk (Kd.R_lower ho5 (below_size (by repeat (first | (with_reducible first | exact HB.out | apply below_alloc | apply pw_below_drewN | apply below_drew1) | exact HB.out)))); have n1_ := Aside0.mk (below_step (by repeat (first | (with_reducible first | exact HB.out | apply below_alloc | apply pw_below_drewN | apply below_drew1) | exact HB.out)) hb); clear HB; have HO293 := n0_; have HB := n1_; clear n0_ n1_; clear hb ho5; obtain ⟨Ao6, co6, eo6⟩ := Kd.R_slice HO293.out; subst eo6) | (go_at_call 47; (with_reducible refine (correctorref15_in.calls k a0 _ _ y291 true _ ?side1 ?side2 A2.out).mono ?_); (case side1 => repeat (first | exact (Kd.R_reads' HO293.out).2.2 | (with_reducible refine Kd.C_alloc ?_ _) | (with_reducible refine Kd.C_drewN ?_ _) | (with_reducible refine Kd.C_drew ?_))); (case side2 => exact (Kd.R_reads' HO293.out).2.1); rintro e w' ⟨rfl, ⟨nd, rfl⟩⟩; (try first | exact ⟨rfl, _, World.drewN_drewN _ _ _⟩ | exact ⟨rfl, _, Eq.trans (World.drewN_drewN _ _ _) (congrArg (World.drewN _) (Nat.add_assoc _ _ _))⟩))); try go_wp2_with (first | ((with_reducible refine gate_dst (N := 6) rfl ?_); (try (refine gate_guard (by rfl) ?_; dsimp only)); refine Kd.R_lit Kd.string _ 9 ?hg (N := 6) ?hd (xs := ([(⟨#[46, 110, 97, 110]⟩ : ByteArray), (⟨#[46, 78, 97, 78]⟩ : ByteArray), (⟨#[46, 78, 65, 78]⟩ : ByteArray)] : List ByteArray)) (inner := [.string (⟨#[46, 110, 97, 110]⟩ : ByteArray), .string (⟨#[46, 78, 97, 78]⟩ : ByteArray), .string (⟨#[46, 78, 65, 78]⟩ : ByteArray)]) (ok := fun _ => True) (okp := fun _ => True) ?hr ?hp (fun _ hk => hk) trivial (Below.refl _ _) (Nat.le_refl _) (by simp) ?_; (case hd => rfl); (case hg => rfl); (case hr => first | (go_simp; done) | (go_simp; rfl)); (case hp => exact (Reps.one (show Kd.M Kd.string _ _ _ (⟨#[46, 110, 97, 110]⟩ : ByteArray) [.string (⟨#[46, 110, 97, 110]⟩ : ByteArray)] from rfl) (Reps.one (show Kd.M Kd.string _ _ _ (⟨#[46, 78, 97, 78]⟩ : ByteArray) [.string (⟨#[46, 78, 97, 78]⟩ : ByteArray)] from rfl) (Reps.one (show Kd.M Kd.string _ _ _ (⟨#[46, 78, 65, 78]⟩ : ByteArray) [.string (⟨#[46, 78, 65, 78]⟩ : ByteArray)] from rfl) (Reps.none _ _))))); intro v292 w4 ho5 hb hg_ hnew_; clear hg_ hnew_; (first | rw [← Ny291.out] at ho5 | (simp only [Int.reduceToNat] at ho5; rw [← Ny291.out] at ho5)); have n0_ := Aside0.mk (Kd.R_lower ho5 (below_size (by repeat (first | (with_reducible first | exact HB.out | apply below_alloc | apply pw_below_drewN | apply below_drew1) | exact HB.out)))); have n1_ := Aside0.mk (below_step (by repeat (first | (with_reducible first | exact HB.out | apply below_alloc | apply pw_below_drewN | apply below_drew1) | exact HB.out)) hb); clear HB; have HO293 := n0_; have HB := n1_; clear n0_ n1_; clear hb ho5; obtain ⟨Ao6, co6, eo6⟩ := Kd.R_slice HO293.out; subst eo6) | (go_at_call 47; (with_reducible refine (correctorref15_in.calls k a0 _ _ y291 true _ ?side1 ?side2 A2.out).mono ?_); (case side1 => repeat (first | exact (Kd.R_reads' HO293.out).2.2 | (with_reducible refine Kd.C_alloc ?_ _) | (with_reducible refine Kd.C_drewN ?_ _) | (with_reducible refine Kd.C_drew ?_))); (case side2 => exact (Kd.R_reads' HO293.out).2.1); rintro e w' ⟨rfl, ⟨nd, rfl⟩⟩; (try first | exact ⟨rfl, _, World.drewN_drewN _ _ _⟩ | exact ⟨rfl, _, Eq.trans (World.drewN_drewN _ _ _) (congrArg (World.drewN _) (Nat.add_assoc _ _ _))⟩))))
    go_ret
    exact ⟨by first | rfl | (simp [errW_none, errW_some] <;> rfl) | (simp [*, errW_none, errW_some] <;> rfl), by repeat (first | (with_reducible first | exact HB.out | apply below_alloc | apply pw_below_drewN | apply below_drew1) | exact HB.out)⟩
  · replace c3 := Bool.eq_false_iff.mpr c3
    subst c3
    have H1 : ((correctorref15_signed.f a0).bind fun bt295 => ((correctorref15_in.f k bt295.2.2 (([(⟨#[46, 105, 110, 102]⟩ : ByteArray), (⟨#[46, 73, 110, 102]⟩ : ByteArray), (⟨#[46, 73, 78, 70]⟩ : ByteArray)] : List ByteArray))).bind fun t301 => (if t301 = true then (some true) else ((correctorref15_digits.f k bt295.2.2).bind fun t302 => (if 0 ≤ t302 then (if t302 ≤ (bt295.2.2.size : Int) then (if ((bt295.2.2.extract (t302 : Int).toNat bt295.2.2.size).size : Int) > 0 then (if 0 < ((bt295.2.2.extract (t302 : Int).toNat bt295.2.2.size).size : Int) then (correctorref15_float.j0 k (bt295.2.2.extract (t302 : Int).toNat bt295.2.2.size) t302 ((bt (bt295.2.2.extract (t302 : Int).toNat bt295.2.2.size) 0) == 46)) else (none)) else (correctorref15_float.j0 k (bt295.2.2.extract (t302 : Int).toNat bt295.2.2.size) t302 false)) else (none)) else (none)))))) = some r := by rw [if_neg (show ¬ (false = true) by decide)] at H; exact H
    clear H
    have H := H1
    clear H1
    replace H := Option.bind_eq_some_iff.mp H
    obtain ⟨⟨t295, t296, t297⟩, A70, H⟩ := H
    replace H : ((correctorref15_in.f k t297 (([(⟨#[46, 105, 110, 102]⟩ : ByteArray), (⟨#[46, 73, 110, 102]⟩ : ByteArray), (⟨#[46, 73, 78, 70]⟩ : ByteArray)] : List ByteArray))).bind fun t301 => (if t301 = true then (some true) else ((correctorref15_digits.f k t297).bind fun t302 => (if 0 ≤ t302 then (if t302 ≤ (t297.size : Int) then (if ((t297.extract (t302 : Int).toNat t297.size).size : Int) > 0 then (if 0 < ((t297.extract (t302 : Int).toNat t297.size).size : Int) then (correctorref15_float.j0 k (t297.extract (t302 : Int).toNat t297.size) t302 ((bt (t297.extract (t302 : Int).toNat t297.size) 0) == 46)) else (none)) else (correctorref15_float.j0 k (t297.extract (t302 : Int).toNat t297.size) t302 false)) else (none)) else (none))))) = some r := H
    have A7 := Aside0.mk A70
    clear A70
    obtain ⟨y298, hy298⟩ : ∃ y_ : List ByteArray, y_ = (([(⟨#[46, 105, 110, 102]⟩ : ByteArray), (⟨#[46, 73, 110, 102]⟩ : ByteArray), (⟨#[46, 73, 78, 70]⟩ : ByteArray)] : List ByteArray)) := ⟨_, rfl⟩
    replace H : ((correctorref15_in.f k t297 y298).bind fun t301 => (if t301 = true then (some true) else ((correctorref15_digits.f k t297).bind fun t302 => (if 0 ≤ t302 then (if t302 ≤ (t297.size : Int) then (if ((t297.extract (t302 : Int).toNat t297.size).size : Int) > 0 then (if 0 < ((t297.extract (t302 : Int).toNat t297.size).size : Int) then (correctorref15_float.j0 k (t297.extract (t302 : Int).toNat t297.size) t302 ((bt (t297.extract (t302 : Int).toNat t297.size) 0) == 46)) else (none)) else (correctorref15_float.j0 k (t297.extract (t302 : Int).toNat t297.size) t302 false)) else (none)) else (none))))) = some r := by first | (rw [hy298]; with_reducible exact H) | (have H2_ := (Option.bind_some _ _).symm.trans H; rw [hy298]; with_reducible exact H2_) | (have H2_ := (Option.bind_some _ _).symm.trans H; with_reducible exact H2_) | with_reducible exact H | (rw [hy298]; exact H) | exact H
    have Ny298 := Aside0.mk hy298
    clear hy298
    replace H := Option.bind_eq_some_iff.mp H
    obtain ⟨t301, A80, H⟩ := H
    replace H : (if t301 = true then (some true) else ((correctorref15_digits.f k t297).bind fun t302 => (if 0 ≤ t302 then (if t302 ≤ (t297.size : Int) then (if ((t297.extract (t302 : Int).toNat t297.size).size : Int) > 0 then (if 0 < ((t297.extract (t302 : Int).toNat t297.size).size : Int) then (correctorref15_float.j0 k (t297.extract (t302 : Int).toNat t297.size) t302 ((bt (t297.extract (t302 : Int).toNat t297.size) 0) == 46)) else (none)) else (correctorref15_float.j0 k (t297.extract (t302 : Int).toNat t297.size) t302 false)) else (none)) else (none)))) = some r := H
    have A8 := Aside0.mk A80
    clear A80
    by_cases c9 : t301 = true
    · subst c9
      have H1 : (some true) = some r := by rw [if_pos rfl] at H; exact H
      clear H
      have H := H1
      clear H1
      obtain rfl := Option.some.inj H
      go_enter Try.func48, Try.ntmps48
      go_wp2_with (first | ((with_reducible refine gate_dst (N := 6) rfl ?_); (try (refine gate_guard (by rfl) ?_; dsimp only)); refine Kd.R_lit Kd.string _ 9 ?hg (N := 6) ?hd (xs := ([(⟨#[46, 110, 97, 110]⟩ : ByteArray), (⟨#[46, 78, 97, 78]⟩ : ByteArray), (⟨#[46, 78, 65, 78]⟩ : ByteArray)] : List ByteArray)) (inner := [.string (⟨#[46, 110, 97, 110]⟩ : ByteArray), .string (⟨#[46, 78, 97, 78]⟩ : ByteArray), .string (⟨#[46, 78, 65, 78]⟩ : ByteArray)]) (ok := fun _ => True) (okp := fun _ => True) ?hr ?hp (fun _ hk => hk) trivial (Below.refl _ _) (Nat.le_refl _) (by simp) ?_; (case hd => rfl); (case hg => rfl); (case hr => first | (go_simp; done) | (go_simp; rfl)); (case hp => exact (Reps.one (show Kd.M Kd.string _ _ _ (⟨#[46, 110, 97, 110]⟩ : ByteArray) [.string (⟨#[46, 110, 97, 110]⟩ : ByteArray)] from rfl) (Reps.one (show Kd.M Kd.string _ _ _ (⟨#[46, 78, 97, 78]⟩ : ByteArray) [.string (⟨#[46, 78, 97, 78]⟩ : ByteArray)] from rfl) (Reps.one (show Kd.M Kd.string _ _ _ (⟨#[46, 78, 65, 78]⟩ : ByteArray) [.string (⟨#[46, 78, 65, 78]⟩ : ByteArray)] from rfl) (Reps.none _ _))))); intro v292 w10 ho11 hb hg_ hnew_; clear hg_ hnew_; (first | rw [← Ny291.out] at ho11 | (simp only [Int.reduceToNat] at ho11; rw [← Ny291.out] at ho11)); have n0_ := Aside0.mk (Kd.R_lower ho11 (below_size (by repeat (first | (with_reducible first | exact HB.out | apply below_alloc | apply pw_below_drewN | apply below_drew1) | exact HB.out)))); have n1_ := Aside0.mk (below_step (by repeat (first | (with_reducible first | exact HB.out | apply below_alloc | apply pw_below_drewN | apply below_drew1) | exact HB.out)) hb); clear HB; have HO293 := n0_; have HB := n1_; clear n0_ n1_; clear hb ho11; obtain ⟨Ao12, co12, eo12⟩ := Kd.R_slice HO293.out; subst eo12) | (go_at_call 47; (with_reducible refine (correctorref15_in.calls k a0 _ _ y291 false _ ?side1 ?side2 A2.out).mono ?_); (case side1 => repeat (first | exact (Kd.R_reads' HO293.out).2.2 | (with_reducible refine Kd.C_alloc ?_ _) | (with_reducible refine Kd.C_drewN ?_ _) | (with_reducible refine Kd.C_drew ?_))); (case side2 => exact (Kd.R_reads' HO293.out).2.1); rintro e w' ⟨rfl, ⟨nd, rfl⟩⟩; (try first | exact ⟨rfl, _, World.drewN_drewN _ _ _⟩ | exact ⟨rfl, _, Eq.trans (World.drewN_drewN _ _ _) (congrArg (World.drewN _) (Nat.add_assoc _ _ _))⟩)) | (go_at_call 46; (with_reducible refine (correctorref15_signed.calls a0 t295 t296 t297 _ A7.out).mono ?_); rintro e w' ⟨rfl, ⟨nd, rfl⟩⟩; (try first | exact ⟨rfl, _, World.drewN_drewN _ _ _⟩ | exact ⟨rfl, _, Eq.trans (World.drewN_drewN _ _ _) (congrArg (World.drewN _) (Nat.add_assoc _ _ _))⟩)) | ((with_reducible refine gate_dst (N := 15) rfl ?_); (try (refine gate_guard (by rfl) ?_; dsimp only)); refine Kd.R_lit Kd.string _ 9 ?hg (N := 15) ?hd (xs := ([(⟨#[46, 105, 110, 102]⟩ : ByteArray), (⟨#[46, 73, 110, 102]⟩ : ByteArray), (⟨#[46, 73, 78, 70]⟩ : ByteArray)] : List ByteArray)) (inner := [.string (⟨#[46, 105, 110, 102]⟩ : ByteArray), .string (⟨#[46, 73, 110, 102]⟩ : ByteArray), .string (⟨#[46, 73, 78, 70]⟩ : ByteArray)]) (ok := fun _ => True) (okp := fun _ => True) ?hr ?hp (fun _ hk => hk) trivial (Below.refl _ _) (Nat.le_refl _) (by simp) ?_; (case hd => rfl); (case hg => rfl); (case hr => first | (go_simp; done) | (go_simp; rfl)); (case hp => exact (Reps.one (show Kd.M Kd.string _ _ _ (⟨#[46, 105, 110, 102]⟩ : ByteArray) [.string (⟨#[46, 105, 110, 102]⟩ : ByteArray)] from rfl) (Reps.one (show Kd.M Kd.string _ _ _ (⟨#[46, 73, 110, 102]⟩ : ByteArray) [.string (⟨#[46, 73, 110, 102]⟩ : ByteArray)] from rfl) (Reps.one (show Kd.M Kd.string _ _ _ (⟨#[46, 73, 78, 70]⟩ : ByteArray) [.string (⟨#[46, 73, 78, 70]⟩ : ByteArray)] from rfl) (Reps.none _ _))))); intro v299 w13 ho14 hb hg_ hnew_; clear hg_ hnew_; (first | rw [← Ny298.out] at ho14 | (simp only [Int.reduceToNat] at ho14; rw [← Ny298.out] at ho14)); have n0_ := Aside0.mk (Kd.R_elder' (by (with_reducible repeat (first | apply Kd.R_alloc | apply Kd.R_drewN | apply Kd.R_drew)); exact HO293.out) (Kd.R_base ho14) hb); have n1_ := Aside0.mk (Kd.R_lower (Kd.R_new' ho14 (Kd.R_lt (by (with_reducible repeat (first | apply Kd.R_alloc | apply Kd.R_drewN | apply Kd.R_drew)); exact HO293.out))) (below_size (by repeat (first | (with_reducible first | exact HB.out | apply below_alloc | apply pw_below_drewN | apply below_drew1) | exact HB.out)))); have n2_ := Aside0.mk (below_step (by repeat (first | (with_reducible first | exact HB.out | apply below_alloc | apply pw_below_drewN | apply below_drew1) | exact HB.out)) hb); clear HO293; clear HB; have HO293 := n0_; have HO300 := n1_; have HB := n2_; clear n0_ n1_ n2_; clear hb ho14; obtain ⟨Ao15, co15, eo15⟩ := Kd.R_slice HO300.out; subst eo15) | (go_at_call 47; (with_reducible refine (correctorref15_in.calls k t297 _ _ y298 true _ ?side1 ?side2 A8.out).mono ?_); (case side1 => repeat (first | exact (Kd.R_reads' HO300.out).2.2 | (with_reducible refine Kd.C_alloc ?_ _) | (with_reducible refine Kd.C_drewN ?_ _) | (with_reducible refine Kd.C_drew ?_))); (case side2 => exact (Kd.R_reads' HO300.out).2.1); rintro e w' ⟨rfl, ⟨nd, rfl⟩⟩; (try first | exact ⟨rfl, _, World.drewN_drewN _ _ _⟩ | exact ⟨rfl, _, Eq.trans (World.drewN_drewN _ _ _) (congrArg (World.drewN _) (Nat.add_assoc _ _ _))⟩)))
      repeat (go_quiet (first | ((with_reducible refine gate_dst (N := 6) rfl ?_); (try (refine gate_guard (by rfl) ?_; dsimp only)); refine Kd.R_lit Kd.string _ 9 ?hg (N := 6) ?hd (xs := ([(⟨#[46, 110, 97, 110]⟩ : ByteArray), (⟨#[46, 78, 97, 78]⟩ : ByteArray), (⟨#[46, 78, 65, 78]⟩ : ByteArray)] : List ByteArray)) (inner := [.string (⟨#[46, 110, 97, 110]⟩ : ByteArray), .string (⟨#[46, 78, 97, 78]⟩ : ByteArray), .string (⟨#[46, 78, 65, 78]⟩ : ByteArray)]) (ok := fun _ => True) (okp := fun _ => True) ?hr ?hp (fun _ hk => hk) trivial (Below.refl _ _) (Nat.le_refl _) (by simp) ?_; (case hd => rfl); (case hg => rfl); (case hr => first | (go_simp; done) | (go_simp; rfl)); (case hp => exact (Reps.one (show Kd.M Kd.string _ _ _ (⟨#[46, 110, 97, 110]⟩ : ByteArray) [.string (⟨#[46, 110, 97, 110]⟩ : ByteArray)] from rfl) (Reps.one (show Kd.M Kd.string _ _ _ (⟨#[46, 78, 97, 78]⟩ : ByteArray) [.string (⟨#[46, 78, 97, 78]⟩ : ByteArray)] from rfl) (Reps.one (show Kd.M Kd.string _ _ _ (⟨#[46, 78, 65, 78]⟩ : ByteArray) [.string (⟨#[46, 78, 65, 78]⟩ : ByteArray)] from rfl) (Reps.none _ _))))); intro v292 w10 ho11 hb hg_ hnew_; clear hg_ hnew_; (first | rw [← Ny291.out] at ho11 | (simp only [Int.reduceToNat] at ho11; rw [← Ny291.out] at ho11)); have n0_ := Aside0.mk (Kd.R_lower ho11 (below_size (by repeat (first | (with_reducible first | exact HB.out | apply below_alloc | apply pw_below_drewN | apply below_drew1) | exact HB.out)))); have n1_ := Aside0.mk (below_step (by repeat (first | (with_reducible first | exact HB.out | apply below_alloc | apply pw_below_drewN | apply below_drew1) | exact HB.out)) hb); clear HB; have HO293 := n0_; have HB := n1_; clear n0_ n1_; clear hb ho11; obtain ⟨Ao12, co12, eo12⟩ := Kd.R_slice HO293.out; subst eo12) | (go_at_call 47; (with_reducible refine (correctorref15_in.calls k a0 _ _ y291 false _ ?side1 ?side2 A2.out).mono ?_); (case side1 => repeat (first | exact (Kd.R_reads' HO293.out).2.2 | (with_reducible refine Kd.C_alloc ?_ _) | (with_reducible refine Kd.C_drewN ?_ _) | (with_reducible refine Kd.C_drew ?_))); (case side2 => exact (Kd.R_reads' HO293.out).2.1); rintro e w' ⟨rfl, ⟨nd, rfl⟩⟩; (try first | exact ⟨rfl, _, World.drewN_drewN _ _ _⟩ | exact ⟨rfl, _, Eq.trans (World.drewN_drewN _ _ _) (congrArg (World.drewN _) (Nat.add_assoc _ _ _))⟩)) | (go_at_call 46; (with_reducible refine (correctorref15_signed.calls a0 t295 t296 t297 _ A7.out).mono ?_); rintro e w' ⟨rfl, ⟨nd, rfl⟩⟩; (try first | exact ⟨rfl, _, World.drewN_drewN _ _ _⟩ | exact ⟨rfl, _, Eq.trans (World.drewN_drewN _ _ _) (congrArg (World.drewN _) (Nat.add_assoc _ _ _))⟩)) | ((with_reducible refine gate_dst (N := 15) rfl ?_); (try (refine gate_guard (by rfl) ?_; dsimp only)); refine Kd.R_lit Kd.string _ 9 ?hg (N := 15) ?hd (xs := ([(⟨#[46, 105, 110, 102]⟩ : ByteArray), (⟨#[46, 73, 110, 102]⟩ : ByteArray), (⟨#[46, 73, 78, 70]⟩ : ByteArray)] : List ByteArray)) (inner := [.string (⟨#[46, 105, 110, 102]⟩ : ByteArray), .string (⟨#[46, 73, 110, 102]⟩ : ByteArray), .string (⟨#[46, 73, 78, 70]⟩ : ByteArray)]) (ok := fun _ => True) (okp := fun _ => True) ?hr ?hp (fun _ hk => hk) trivial (Below.refl _ _) (Nat.le_refl _) (by simp) ?_; (case hd => rfl); (case hg => rfl); (case hr => first | (go_simp; done) | (go_simp; rfl)); (case hp => exact (Reps.one (show Kd.M Kd.string _ _ _ (⟨#[46, 105, 110, 102]⟩ : ByteArray) [.string (⟨#[46, 105, 110, 102]⟩ : ByteArray)] from rfl) (Reps.one (show Kd.M Kd.string _ _ _ (⟨#[46, 73, 110, 102]⟩ : ByteArray) [.string (⟨#[46, 73, 110, 102]⟩ : ByteArray)] from rfl) (Reps.one (show Kd.M Kd.string _ _ _ (⟨#[46, 73, 78, 70]⟩ : ByteArray) [.string (⟨#[46, 73, 78, 70]⟩ : ByteArray)] from rfl) (Reps.none _ _))))); intro v299 w13 ho14 hb hg_ hnew_; clear hg_ hnew_; (first | rw [← Ny298.out] at ho14 | (simp only [Int.reduceToNat] at ho14; rw [← Ny298.out] at ho14)); have n0_ := Aside0.mk (Kd.R_elder' (by (with_reducible repeat (first | apply Kd.R_alloc | apply Kd.R_drewN | apply Kd.R_drew)); exact HO293.out) (Kd.R_base ho14) hb); have n1_ := Aside0.mk (Kd.R_lower (Kd.R_new' ho14 (Kd.R_lt (by (with_reducible repeat (first | apply Kd.R_alloc | apply Kd.R_drewN | apply Kd.R_drew)); exact HO293.out))) (below_size (by repeat (first | (with_reducible first | exact HB.out | apply below_alloc | apply pw_below_drewN | apply below_drew1) | exact HB.out)))); have n2_ := Aside0.mk (below_step (by repeat (first | (with_reducible first | exact HB.out | apply below_alloc | apply pw_below_drewN | apply below_drew1) | exact HB.out)) hb); clear HO293; clear HB; have HO293 := n0_; have HO300 := n1_; have HB := n2_; clear n0_ n1_ n2_; clear hb ho14; obtain ⟨Ao15, co15, eo15⟩ := Kd.R_slice HO300.out; subst eo15) | (go_at_call 47; (with_reducible refine (correctorref15_in.calls k t297 _ _ y298 true _ ?side1 ?side2 A8.out).mono ?_); (case side1 => repeat (first | exact (Kd.R_reads' HO300.out).2.2 | (with_reducible refine Kd.C_alloc ?_ _) | (with_reducible refine Kd.C_drewN ?_ _) | (with_reducible refine Kd.C_drew ?_))); (case side2 => exact (Kd.R_reads' HO300.out).2.1); rintro e w' ⟨rfl, ⟨nd, rfl⟩⟩; (try first | exact ⟨rfl, _, World.drewN_drewN _ _ _⟩ | exact ⟨rfl, _, Eq.trans (World.drewN_drewN _ _ _) (congrArg (World.drewN _) (Nat.add_assoc _ _ _))⟩))); try go_wp2_with (first | ((with_reducible refine gate_dst (N := 6) rfl ?_); (try (refine gate_guard (by rfl) ?_; dsimp only)); refine Kd.R_lit Kd.string _ 9 ?hg (N := 6) ?hd (xs := ([(⟨#[46, 110, 97, 110]⟩ : ByteArray), (⟨#[46, 78, 97, 78]⟩ : ByteArray), (⟨#[46, 78, 65, 78]⟩ : ByteArray)] : List ByteArray)) (inner := [.string (⟨#[46, 110, 97, 110]⟩ : ByteArray), .string (⟨#[46, 78, 97, 78]⟩ : ByteArray), .string (⟨#[46, 78, 65, 78]⟩ : ByteArray)]) (ok := fun _ => True) (okp := fun _ => True) ?hr ?hp (fun _ hk => hk) trivial (Below.refl _ _) (Nat.le_refl _) (by simp) ?_; (case hd => rfl); (case hg => rfl); (case hr => first | (go_simp; done) | (go_simp; rfl)); (case hp => exact (Reps.one (show Kd.M Kd.string _ _ _ (⟨#[46, 110, 97, 110]⟩ : ByteArray) [.string (⟨#[46, 110, 97, 110]⟩ : ByteArray)] from rfl) (Reps.one (show Kd.M Kd.string _ _ _ (⟨#[46, 78, 97, 78]⟩ : ByteArray) [.string (⟨#[46, 78, 97, 78]⟩ : ByteArray)] from rfl) (Reps.one (show Kd.M Kd.string _ _ _ (⟨#[46, 78, 65, 78]⟩ : ByteArray) [.string (⟨#[46, 78, 65, 78]⟩ : ByteArray)] from rfl) (Reps.none _ _))))); intro v292 w10 ho11 hb hg_ hnew_; clear hg_ hnew_; (first | rw [← Ny291.out] at ho11 | (simp only [Int.reduceToNat] at ho11; rw [← Ny291.out] at ho11)); have n0_ := Aside0.mk (Kd.R_lower ho11 (below_size (by repeat (first | (with_reducible first | exact HB.out | apply below_alloc | apply pw_below_drewN | apply below_drew1) | exact HB.out)))); have n1_ := Aside0.mk (below_step (by repeat (first | (with_reducible first | exact HB.out | apply below_alloc | apply pw_below_drewN | apply below_drew1) | exact HB.out)) hb); clear HB; have HO293 := n0_; have HB := n1_; clear n0_ n1_; clear hb ho11; obtain ⟨Ao12, co12, eo12⟩ := Kd.R_slice HO293.out; subst eo12) | (go_at_call 47; (with_reducible refine (correctorref15_in.calls k a0 _ _ y291 false _ ?side1 ?side2 A2.out).mono ?_); (case side1 => repeat (first | exact (Kd.R_reads' HO293.out).2.2 | (with_reducible refine Kd.C_alloc ?_ _) | (with_reducible refine Kd.C_drewN ?_ _) | (with_reducible refine Kd.C_drew ?_))); (case side2 => exact (Kd.R_reads' HO293.out).2.1); rintro e w' ⟨rfl, ⟨nd, rfl⟩⟩; (try first | exact ⟨rfl, _, World.drewN_drewN _ _ _⟩ | exact ⟨rfl, _, Eq.trans (World.drewN_drewN _ _ _) (congrArg (World.drewN _) (Nat.add_assoc _ _ _))⟩)) | (go_at_call 46; (with_reducible refine (correctorref15_signed.calls a0 t295 t296 t297 _ A7.out).mono ?_); rintro e w' ⟨rfl, ⟨nd, rfl⟩⟩; (try first | exact ⟨rfl, _, World.drewN_drewN _ _ _⟩ | exact ⟨rfl, _, Eq.trans (World.drewN_drewN _ _ _) (congrArg (World.drewN _) (Nat.add_assoc _ _ _))⟩)) | ((with_reducible refine gate_dst (N := 15) rfl ?_); (try (refine gate_guard (by rfl) ?_; dsimp only)); refine Kd.R_lit Kd.string _ 9 ?hg (N := 15) ?hd (xs := ([(⟨#[46, 105, 110, 102]⟩ : ByteArray), (⟨#[46, 73, 110, 102]⟩ : ByteArray), (⟨#[46, 73, 78, 70]⟩ : ByteArray)] : List ByteArray)) (inner := [.string (⟨#[46, 105, 110, 102]⟩ : ByteArray), .string (⟨#[46, 73, 110, 102]⟩ : ByteArray), .string (⟨#[46, 73, 78, 70]⟩ : ByteArray)]) (ok := fun _ => True) (okp := fun _ => True) ?hr ?hp (fun _ hk => hk) trivial (Below.refl _ _) (Nat.le_refl _) (by simp) ?_; (case hd => rfl); (case hg => rfl); (case hr => first | (go_simp; done) | (go_simp; rfl)); (case hp => exact (Reps.one (show Kd.M Kd.string _ _ _ (⟨#[46, 105, 110, 102]⟩ : ByteArray) [.string (⟨#[46, 105, 110, 102]⟩ : ByteArray)] from rfl) (Reps.one (show Kd.M Kd.string _ _ _ (⟨#[46, 73, 110, 102]⟩ : ByteArray) [.string (⟨#[46, 73, 110, 102]⟩ : ByteArray)] from rfl) (Reps.one (show Kd.M Kd.string _ _ _ (⟨#[46, 73, 78, 70]⟩ : ByteArray) [.string (⟨#[46, 73, 78, 70]⟩ : ByteArray)] from rfl) (Reps.none _ _))))); intro v299 w13 ho14 hb hg_ hnew_; clear hg_ hnew_; (first | rw [← Ny298.out] at ho14 | (simp only [Int.reduceToNat] at ho14; rw [← Ny298.out] at ho14)); have n0_ := Aside0.mk (Kd.R_elder' (by (with_reducible repeat (first | apply Kd.R_alloc | apply Kd.R_drewN | apply Kd.R_drew)); exact HO293.out) (Kd.R_base ho14) hb); have n1_ := Aside0.mk (Kd.R_lower (Kd.R_new' ho14 (Kd.R_lt (by (with_reducible repeat (first | apply Kd.R_alloc | apply Kd.R_drewN | apply Kd.R_drew)); exact HO293.out))) (below_size (by repeat (first | (with_reducible first | exact HB.out | apply below_alloc | apply pw_below_drewN | apply below_drew1) | exact HB.out)))); have n2_ := Aside0.mk (below_step (by repeat (first | (with_reducible first | exact HB.out | apply below_alloc | apply pw_below_drewN | apply below_drew1) | exact HB.out)) hb); clear HO293; clear HB; have HO293 := n0_; have HO300 := n1_; have HB := n2_; clear n0_ n1_ n2_; clear hb ho14; obtain ⟨Ao15, co15, eo15⟩ := Kd.R_slice HO300.out; subst eo15) | (go_at_call 47; (with_reducible refine (correctorref15_in.calls k t297 _ _ y298 true _ ?side1 ?side2 A8.out).mono ?_); (case side1 => repeat (first | exact (Kd.R_reads' HO300.out).2.2 | (with_reducible refine Kd.C_alloc ?_ _) | (with_reducible refine Kd.C_drewN ?_ _) | (with_reducible refine Kd.C_drew ?_))); (case side2 => exact (Kd.R_reads' HO300.out).2.1); rintro e w' ⟨rfl, ⟨nd, rfl⟩⟩; (try first | exact ⟨rfl, _, World.drewN_drewN _ _ _⟩ | exact ⟨rfl, _, Eq.trans (World.drewN_drewN _ _ _) (congrArg (World.drewN _) (Nat.add_assoc _ _ _))⟩))))
      go_ret
      exact ⟨by first | rfl | (simp [errW_none, errW_some] <;> rfl) | (simp [*, errW_none, errW_some] <;> rfl), by repeat (first | (with_reducible first | exact HB.out | apply below_alloc | apply pw_below_drewN | apply below_drew1) | exact HB.out)⟩
    · replace c9 := Bool.eq_false_iff.mpr c9
      subst c9
      have H1 : ((correctorref15_digits.f k t297).bind fun t302 => (if 0 ≤ t302 then (if t302 ≤ (t297.size : Int) then (if ((t297.extract (t302 : Int).toNat t297.size).size : Int) > 0 then (if 0 < ((t297.extract (t302 : Int).toNat t297.size).size : Int) then (correctorref15_float.j0 k (t297.extract (t302 : Int).toNat t297.size) t302 ((bt (t297.extract (t302 : Int).toNat t297.size) 0) == 46)) else (none)) else (correctorref15_float.j0 k (t297.extract (t302 : Int).toNat t297.size) t302 false)) else (none)) else (none))) = some r := by rw [if_neg (show ¬ (false = true) by decide)] at H; exact H
      clear H
      have H := H1
      clear H1
      replace H := Option.bind_eq_some_iff.mp H
      obtain ⟨t302, A160, H⟩ := H
      replace H : (if 0 ≤ t302 then (if t302 ≤ (t297.size : Int) then (if ((t297.extract (t302 : Int).toNat t297.size).size : Int) > 0 then (if 0 < ((t297.extract (t302 : Int).toNat t297.size).size : Int) then (correctorref15_float.j0 k (t297.extract (t302 : Int).toNat t297.size) t302 ((bt (t297.extract (t302 : Int).toNat t297.size) 0) == 46)) else (none)) else (correctorref15_float.j0 k (t297.extract (t302 : Int).toNat t297.size) t302 false)) else (none)) else (none)) = some r := H
      have A16 := Aside0.mk A160
      clear A160
      by_cases c17 : 0 ≤ t302
      · rw [if_pos c17] at H
        have c17b0 := eq_true c17
        have c17b1 : decide (0 ≤ t302) = true := decide_eq_true c17
        clear c17
        by_cases c18 : t302 ≤ (t297.size : Int)
        · rw [if_pos c18] at H
          have c18b0 := eq_true c18
          have c18b1 : decide (t302 ≤ (t297.size : Int)) = true := decide_eq_true c18
          clear c18
          have HC19 := Aside0.mk H
          clear H
          go_enter Try.func48, Try.ntmps48
          go_upto_region 8 with (first | ((with_reducible refine gate_dst (N := 6) rfl ?_); (try (refine gate_guard (by rfl) ?_; dsimp only)); refine Kd.R_lit Kd.string _ 9 ?hg (N := 6) ?hd (xs := ([(⟨#[46, 110, 97, 110]⟩ : ByteArray), (⟨#[46, 78, 97, 78]⟩ : ByteArray), (⟨#[46, 78, 65, 78]⟩ : ByteArray)] : List ByteArray)) (inner := [.string (⟨#[46, 110, 97, 110]⟩ : ByteArray), .string (⟨#[46, 78, 97, 78]⟩ : ByteArray), .string (⟨#[46, 78, 65, 78]⟩ : ByteArray)]) (ok := fun _ => True) (okp := fun _ => True) ?hr ?hp (fun _ hk => hk) trivial (Below.refl _ _) (Nat.le_refl _) (by simp) ?_; (case hd => rfl); (case hg => rfl); (case hr => first | (go_simp; done) | (go_simp; rfl)); (case hp => exact (Reps.one (show Kd.M Kd.string _ _ _ (⟨#[46, 110, 97, 110]⟩ : ByteArray) [.string (⟨#[46, 110, 97, 110]⟩ : ByteArray)] from rfl) (Reps.one (show Kd.M Kd.string _ _ _ (⟨#[46, 78, 97, 78]⟩ : ByteArray) [.string (⟨#[46, 78, 97, 78]⟩ : ByteArray)] from rfl) (Reps.one (show Kd.M Kd.string _ _ _ (⟨#[46, 78, 65, 78]⟩ : ByteArray) [.string (⟨#[46, 78, 65, 78]⟩ : ByteArray)] from rfl) (Reps.none _ _))))); intro v292 w20 ho21 hb hg_ hnew_; clear hg_ hnew_; (first | rw [← Ny291.out] at ho21 | (simp only [Int.reduceToNat] at ho21; rw [← Ny291.out] at ho21)); have n0_ := Aside0.mk (Kd.R_lower ho21 (below_size (by repeat (first | (with_reducible first | exact HB.out | apply below_alloc | apply pw_below_drewN | apply below_drew1) | exact HB.out)))); have n1_ := Aside0.mk (below_step (by repeat (first | (with_reducible first | exact HB.out | apply below_alloc | apply pw_below_drewN | apply below_drew1) | exact HB.out)) hb); clear HB; have HO293 := n0_; have HB := n1_; clear n0_ n1_; clear hb ho21; obtain ⟨Ao22, co22, eo22⟩ := Kd.R_slice HO293.out; subst eo22) | (go_at_call 47; (with_reducible refine (correctorref15_in.calls k a0 _ _ y291 false _ ?side1 ?side2 A2.out).mono ?_); (case side1 => repeat (first | exact (Kd.R_reads' HO293.out).2.2 | (with_reducible refine Kd.C_alloc ?_ _) | (with_reducible refine Kd.C_drewN ?_ _) | (with_reducible refine Kd.C_drew ?_))); (case side2 => exact (Kd.R_reads' HO293.out).2.1); rintro e w' ⟨rfl, ⟨nd, rfl⟩⟩; (try first | exact ⟨rfl, _, World.drewN_drewN _ _ _⟩ | exact ⟨rfl, _, Eq.trans (World.drewN_drewN _ _ _) (congrArg (World.drewN _) (Nat.add_assoc _ _ _))⟩)) | (go_at_call 46; (with_reducible refine (correctorref15_signed.calls a0 t295 t296 t297 _ A7.out).mono ?_); rintro e w' ⟨rfl, ⟨nd, rfl⟩⟩; (try first | exact ⟨rfl, _, World.drewN_drewN _ _ _⟩ | exact ⟨rfl, _, Eq.trans (World.drewN_drewN _ _ _) (congrArg (World.drewN _) (Nat.add_assoc _ _ _))⟩)) | ((with_reducible refine gate_dst (N := 15) rfl ?_); (try (refine gate_guard (by rfl) ?_; dsimp only)); refine Kd.R_lit Kd.string _ 9 ?hg (N := 15) ?hd (xs := ([(⟨#[46, 105, 110, 102]⟩ : ByteArray), (⟨#[46, 73, 110, 102]⟩ : ByteArray), (⟨#[46, 73, 78, 70]⟩ : ByteArray)] : List ByteArray)) (inner := [.string (⟨#[46, 105, 110, 102]⟩ : ByteArray), .string (⟨#[46, 73, 110, 102]⟩ : ByteArray), .string (⟨#[46, 73, 78, 70]⟩ : ByteArray)]) (ok := fun _ => True) (okp := fun _ => True) ?hr ?hp (fun _ hk => hk) trivial (Below.refl _ _) (Nat.le_refl _) (by simp) ?_; (case hd => rfl); (case hg => rfl); (case hr => first | (go_simp; done) | (go_simp; rfl)); (case hp => exact (Reps.one (show Kd.M Kd.string _ _ _ (⟨#[46, 105, 110, 102]⟩ : ByteArray) [.string (⟨#[46, 105, 110, 102]⟩ : ByteArray)] from rfl) (Reps.one (show Kd.M Kd.string _ _ _ (⟨#[46, 73, 110, 102]⟩ : ByteArray) [.string (⟨#[46, 73, 110, 102]⟩ : ByteArray)] from rfl) (Reps.one (show Kd.M Kd.string _ _ _ (⟨#[46, 73, 78, 70]⟩ : ByteArray) [.string (⟨#[46, 73, 78, 70]⟩ : ByteArray)] from rfl) (Reps.none _ _))))); intro v299 w23 ho24 hb hg_ hnew_; clear hg_ hnew_; (first | rw [← Ny298.out] at ho24 | (simp only [Int.reduceToNat] at ho24; rw [← Ny298.out] at ho24)); have n0_ := Aside0.mk (Kd.R_elder' (by (with_reducible repeat (first | apply Kd.R_alloc | apply Kd.R_drewN | apply Kd.R_drew)); exact HO293.out) (Kd.R_base ho24) hb); have n1_ := Aside0.mk (Kd.R_lower (Kd.R_new' ho24 (Kd.R_lt (by (with_reducible repeat (first | apply Kd.R_alloc | apply Kd.R_drewN | apply Kd.R_drew)); exact HO293.out))) (below_size (by repeat (first | (with_reducible first | exact HB.out | apply below_alloc | apply pw_below_drewN | apply below_drew1) | exact HB.out)))); have n2_ := Aside0.mk (below_step (by repeat (first | (with_reducible first | exact HB.out | apply below_alloc | apply pw_below_drewN | apply below_drew1) | exact HB.out)) hb); clear HO293; clear HB; have HO293 := n0_; have HO300 := n1_; have HB := n2_; clear n0_ n1_ n2_; clear hb ho24; obtain ⟨Ao25, co25, eo25⟩ := Kd.R_slice HO300.out; subst eo25) | (go_at_call 47; (with_reducible refine (correctorref15_in.calls k t297 _ _ y298 false _ ?side1 ?side2 A8.out).mono ?_); (case side1 => repeat (first | exact (Kd.R_reads' HO300.out).2.2 | (with_reducible refine Kd.C_alloc ?_ _) | (with_reducible refine Kd.C_drewN ?_ _) | (with_reducible refine Kd.C_drew ?_))); (case side2 => exact (Kd.R_reads' HO300.out).2.1); rintro e w' ⟨rfl, ⟨nd, rfl⟩⟩; (try first | exact ⟨rfl, _, World.drewN_drewN _ _ _⟩ | exact ⟨rfl, _, Eq.trans (World.drewN_drewN _ _ _) (congrArg (World.drewN _) (Nat.add_assoc _ _ _))⟩)) | (go_at_call 55; (with_reducible refine (correctorref15_digits.calls k t297 t302 _ A16.out).mono ?_); rintro e w' ⟨rfl, ⟨nd, rfl⟩⟩; (try first | exact ⟨rfl, _, World.drewN_drewN _ _ _⟩ | exact ⟨rfl, _, Eq.trans (World.drewN_drewN _ _ _) (congrArg (World.drewN _) (Nat.add_assoc _ _ _))⟩)))
          repeat (go_quiet (first | ((with_reducible refine gate_dst (N := 6) rfl ?_); (try (refine gate_guard (by rfl) ?_; dsimp only)); refine Kd.R_lit Kd.string _ 9 ?hg (N := 6) ?hd (xs := ([(⟨#[46, 110, 97, 110]⟩ : ByteArray), (⟨#[46, 78, 97, 78]⟩ : ByteArray), (⟨#[46, 78, 65, 78]⟩ : ByteArray)] : List ByteArray)) (inner := [.string (⟨#[46, 110, 97, 110]⟩ : ByteArray), .string (⟨#[46, 78, 97, 78]⟩ : ByteArray), .string (⟨#[46, 78, 65, 78]⟩ : ByteArray)]) (ok := fun _ => True) (okp := fun _ => True) ?hr ?hp (fun _ hk => hk) trivial (Below.refl _ _) (Nat.le_refl _) (by simp) ?_; (case hd => rfl); (case hg => rfl); (case hr => first | (go_simp; done) | (go_simp; rfl)); (case hp => exact (Reps.one (show Kd.M Kd.string _ _ _ (⟨#[46, 110, 97, 110]⟩ : ByteArray) [.string (⟨#[46, 110, 97, 110]⟩ : ByteArray)] from rfl) (Reps.one (show Kd.M Kd.string _ _ _ (⟨#[46, 78, 97, 78]⟩ : ByteArray) [.string (⟨#[46, 78, 97, 78]⟩ : ByteArray)] from rfl) (Reps.one (show Kd.M Kd.string _ _ _ (⟨#[46, 78, 65, 78]⟩ : ByteArray) [.string (⟨#[46, 78, 65, 78]⟩ : ByteArray)] from rfl) (Reps.none _ _))))); intro v292 w20 ho21 hb hg_ hnew_; clear hg_ hnew_; (first | rw [← Ny291.out] at ho21 | (simp only [Int.reduceToNat] at ho21; rw [← Ny291.out] at ho21)); have n0_ := Aside0.mk (Kd.R_lower ho21 (below_size (by repeat (first | (with_reducible first | exact HB.out | apply below_alloc | apply pw_below_drewN | apply below_drew1) | exact HB.out)))); have n1_ := Aside0.mk (below_step (by repeat (first | (with_reducible first | exact HB.out | apply below_alloc | apply pw_below_drewN | apply below_drew1) | exact HB.out)) hb); clear HB; have HO293 := n0_; have HB := n1_; clear n0_ n1_; clear hb ho21; obtain ⟨Ao22, co22, eo22⟩ := Kd.R_slice HO293.out; subst eo22) | (go_at_call 47; (with_reducible refine (correctorref15_in.calls k a0 _ _ y291 false _ ?side1 ?side2 A2.out).mono ?_); (case side1 => repeat (first | exact (Kd.R_reads' HO293.out).2.2 | (with_reducible refine Kd.C_alloc ?_ _) | (with_reducible refine Kd.C_drewN ?_ _) | (with_reducible refine Kd.C_drew ?_))); (case side2 => exact (Kd.R_reads' HO293.out).2.1); rintro e w' ⟨rfl, ⟨nd, rfl⟩⟩; (try first | exact ⟨rfl, _, World.drewN_drewN _ _ _⟩ | exact ⟨rfl, _, Eq.trans (World.drewN_drewN _ _ _) (congrArg (World.drewN _) (Nat.add_assoc _ _ _))⟩)) | (go_at_call 46; (with_reducible refine (correctorref15_signed.calls a0 t295 t296 t297 _ A7.out).mono ?_); rintro e w' ⟨rfl, ⟨nd, rfl⟩⟩; (try first | exact ⟨rfl, _, World.drewN_drewN _ _ _⟩ | exact ⟨rfl, _, Eq.trans (World.drewN_drewN _ _ _) (congrArg (World.drewN _) (Nat.add_assoc _ _ _))⟩)) | ((with_reducible refine gate_dst (N := 15) rfl ?_); (try (refine gate_guard (by rfl) ?_; dsimp only)); refine Kd.R_lit Kd.string _ 9 ?hg (N := 15) ?hd (xs := ([(⟨#[46, 105, 110, 102]⟩ : ByteArray), (⟨#[46, 73, 110, 102]⟩ : ByteArray), (⟨#[46, 73, 78, 70]⟩ : ByteArray)] : List ByteArray)) (inner := [.string (⟨#[46, 105, 110, 102]⟩ : ByteArray), .string (⟨#[46, 73, 110, 102]⟩ : ByteArray), .string (⟨#[46, 73, 78, 70]⟩ : ByteArray)]) (ok := fun _ => True) (okp := fun _ => True) ?hr ?hp (fun _ hk => hk) trivial (Below.refl _ _) (Nat.le_refl _) (by simp) ?_; (case hd => rfl); (case hg => rfl); (case hr => first | (go_simp; done) | (go_simp; rfl)); (case hp => exact (Reps.one (show Kd.M Kd.string _ _ _ (⟨#[46, 105, 110, 102]⟩ : ByteArray) [.string (⟨#[46, 105, 110, 102]⟩ : ByteArray)] from rfl) (Reps.one (show Kd.M Kd.string _ _ _ (⟨#[46, 73, 110, 102]⟩ : ByteArray) [.string (⟨#[46, 73, 110, 102]⟩ : ByteArray)] from rfl) (Reps.one (show Kd.M Kd.string _ _ _ (⟨#[46, 73, 78, 70]⟩ : ByteArray) [.string (⟨#[46, 73, 78, 70]⟩ : ByteArray)] from rfl) (Reps.none _ _))))); intro v299 w23 ho24 hb hg_ hnew_; clear hg_ hnew_; (first | rw [← Ny298.out] at ho24 | (simp only [Int.reduceToNat] at ho24; rw [← Ny298.out] at ho24)); have n0_ := Aside0.mk (Kd.R_elder' (by (with_reducible repeat (first | apply Kd.R_alloc | apply Kd.R_drewN | apply Kd.R_drew)); exact HO293.out) (Kd.R_base ho24) hb); have n1_ := Aside0.mk (Kd.R_lower (Kd.R_new' ho24 (Kd.R_lt (by (with_reducible repeat (first | apply Kd.R_alloc | apply Kd.R_drewN | apply Kd.R_drew)); exact HO293.out))) (below_size (by repeat (first | (with_reducible first | exact HB.out | apply below_alloc | apply pw_below_drewN | apply below_drew1) | exact HB.out)))); have n2_ := Aside0.mk (below_step (by repeat (first | (with_reducible first | exact HB.out | apply below_alloc | apply pw_below_drewN | apply below_drew1) | exact HB.out)) hb); clear HO293; clear HB; have HO293 := n0_; have HO300 := n1_; have HB := n2_; clear n0_ n1_ n2_; clear hb ho24; obtain ⟨Ao25, co25, eo25⟩ := Kd.R_slice HO300.out; subst eo25) | (go_at_call 47; (with_reducible refine (correctorref15_in.calls k t297 _ _ y298 false _ ?side1 ?side2 A8.out).mono ?_); (case side1 => repeat (first | exact (Kd.R_reads' HO300.out).2.2 | (with_reducible refine Kd.C_alloc ?_ _) | (with_reducible refine Kd.C_drewN ?_ _) | (with_reducible refine Kd.C_drew ?_))); (case side2 => exact (Kd.R_reads' HO300.out).2.1); rintro e w' ⟨rfl, ⟨nd, rfl⟩⟩; (try first | exact ⟨rfl, _, World.drewN_drewN _ _ _⟩ | exact ⟨rfl, _, Eq.trans (World.drewN_drewN _ _ _) (congrArg (World.drewN _) (Nat.add_assoc _ _ _))⟩)) | (go_at_call 55; (with_reducible refine (correctorref15_digits.calls k t297 t302 _ A16.out).mono ?_); rintro e w' ⟨rfl, ⟨nd, rfl⟩⟩; (try first | exact ⟨rfl, _, World.drewN_drewN _ _ _⟩ | exact ⟨rfl, _, Eq.trans (World.drewN_drewN _ _ _) (congrArg (World.drewN _) (Nat.add_assoc _ _ _))⟩))); go_upto_region 8 with (first | ((with_reducible refine gate_dst (N := 6) rfl ?_); (try (refine gate_guard (by rfl) ?_; dsimp only)); refine Kd.R_lit Kd.string _ 9 ?hg (N := 6) ?hd (xs := ([(⟨#[46, 110, 97, 110]⟩ : ByteArray), (⟨#[46, 78, 97, 78]⟩ : ByteArray), (⟨#[46, 78, 65, 78]⟩ : ByteArray)] : List ByteArray)) (inner := [.string (⟨#[46, 110, 97, 110]⟩ : ByteArray), .string (⟨#[46, 78, 97, 78]⟩ : ByteArray), .string (⟨#[46, 78, 65, 78]⟩ : ByteArray)]) (ok := fun _ => True) (okp := fun _ => True) ?hr ?hp (fun _ hk => hk) trivial (Below.refl _ _) (Nat.le_refl _) (by simp) ?_; (case hd => rfl); (case hg => rfl); (case hr => first | (go_simp; done) | (go_simp; rfl)); (case hp => exact (Reps.one (show Kd.M Kd.string _ _ _ (⟨#[46, 110, 97, 110]⟩ : ByteArray) [.string (⟨#[46, 110, 97, 110]⟩ : ByteArray)] from rfl) (Reps.one (show Kd.M Kd.string _ _ _ (⟨#[46, 78, 97, 78]⟩ : ByteArray) [.string (⟨#[46, 78, 97, 78]⟩ : ByteArray)] from rfl) (Reps.one (show Kd.M Kd.string _ _ _ (⟨#[46, 78, 65, 78]⟩ : ByteArray) [.string (⟨#[46, 78, 65, 78]⟩ : ByteArray)] from rfl) (Reps.none _ _))))); intro v292 w20 ho21 hb hg_ hnew_; clear hg_ hnew_; (first | rw [← Ny291.out] at ho21 | (simp only [Int.reduceToNat] at ho21; rw [← Ny291.out] at ho21)); have n0_ := Aside0.mk (Kd.R_lower ho21 (below_size (by repeat (first | (with_reducible first | exact HB.out | apply below_alloc | apply pw_below_drewN | apply below_drew1) | exact HB.out)))); have n1_ := Aside0.mk (below_step (by repeat (first | (with_reducible first | exact HB.out | apply below_alloc | apply pw_below_drewN | apply below_drew1) | exact HB.out)) hb); clear HB; have HO293 := n0_; have HB := n1_; clear n0_ n1_; clear hb ho21; obtain ⟨Ao22, co22, eo22⟩ := Kd.R_slice HO293.out; subst eo22) | (go_at_call 47; (with_reducible refine (correctorref15_in.calls k a0 _ _ y291 false _ ?side1 ?side2 A2.out).mono ?_); (case side1 => repeat (first | exact (Kd.R_reads' HO293.out).2.2 | (with_reducible refine Kd.C_alloc ?_ _) | (with_reducible refine Kd.C_drewN ?_ _) | (with_reducible refine Kd.C_drew ?_))); (case side2 => exact (Kd.R_reads' HO293.out).2.1); rintro e w' ⟨rfl, ⟨nd, rfl⟩⟩; (try first | exact ⟨rfl, _, World.drewN_drewN _ _ _⟩ | exact ⟨rfl, _, Eq.trans (World.drewN_drewN _ _ _) (congrArg (World.drewN _) (Nat.add_assoc _ _ _))⟩)) | (go_at_call 46; (with_reducible refine (correctorref15_signed.calls a0 t295 t296 t297 _ A7.out).mono ?_); rintro e w' ⟨rfl, ⟨nd, rfl⟩⟩; (try first | exact ⟨rfl, _, World.drewN_drewN _ _ _⟩ | exact ⟨rfl, _, Eq.trans (World.drewN_drewN _ _ _) (congrArg (World.drewN _) (Nat.add_assoc _ _ _))⟩)) | ((with_reducible refine gate_dst (N := 15) rfl ?_); (try (refine gate_guard (by rfl) ?_; dsimp only)); refine Kd.R_lit Kd.string _ 9 ?hg (N := 15) ?hd (xs := ([(⟨#[46, 105, 110, 102]⟩ : ByteArray), (⟨#[46, 73, 110, 102]⟩ : ByteArray), (⟨#[46, 73, 78, 70]⟩ : ByteArray)] : List ByteArray)) (inner := [.string (⟨#[46, 105, 110, 102]⟩ : ByteArray), .string (⟨#[46, 73, 110, 102]⟩ : ByteArray), .string (⟨#[46, 73, 78, 70]⟩ : ByteArray)]) (ok := fun _ => True) (okp := fun _ => True) ?hr ?hp (fun _ hk => hk) trivial (Below.refl _ _) (Nat.le_refl _) (by simp) ?_; (case hd => rfl); (case hg => rfl); (case hr => first | (go_simp; done) | (go_simp; rfl)); (case hp => exact (Reps.one (show Kd.M Kd.string _ _ _ (⟨#[46, 105, 110, 102]⟩ : ByteArray) [.string (⟨#[46, 105, 110, 102]⟩ : ByteArray)] from rfl) (Reps.one (show Kd.M Kd.string _ _ _ (⟨#[46, 73, 110, 102]⟩ : ByteArray) [.string (⟨#[46, 73, 110, 102]⟩ : ByteArray)] from rfl) (Reps.one (show Kd.M Kd.string _ _ _ (⟨#[46, 73, 78, 70]⟩ : ByteArray) [.string (⟨#[46, 73, 78, 70]⟩ : ByteArray)] from rfl) (Reps.none _ _))))); intro v299 w23 ho24 hb hg_ hnew_; clear hg_ hnew_; (first | rw [← Ny298.out] at ho24 | (simp only [Int.reduceToNat] at ho24; rw [← Ny298.out] at ho24)); have n0_ := Aside0.mk (Kd.R_elder' (by (with_reducible repeat (first | apply Kd.R_alloc | apply Kd.R_drewN | apply Kd.R_drew)); exact HO293.out) (Kd.R_base ho24) hb); have n1_ := Aside0.mk (Kd.R_lower (Kd.R_new' ho24 (Kd.R_lt (by (with_reducible repeat (first | apply Kd.R_alloc | apply Kd.R_drewN | apply Kd.R_drew)); exact HO293.out))) (below_size (by repeat (first | (with_reducible first | exact HB.out | apply below_alloc | apply pw_below_drewN | apply below_drew1) | exact HB.out)))); have n2_ := Aside0.mk (below_step (by repeat (first | (with_reducible first | exact HB.out | apply below_alloc | apply pw_below_drewN | apply below_drew1) | exact HB.out)) hb); clear HO293; clear HB; have HO293 := n0_; have HO300 := n1_; have HB := n2_; clear n0_ n1_ n2_; clear hb ho24; obtain ⟨Ao25, co25, eo25⟩ := Kd.R_slice HO300.out; subst eo25) | (go_at_call 47; (with_reducible refine (correctorref15_in.calls k t297 _ _ y298 false _ ?side1 ?side2 A8.out).mono ?_); (case side1 => repeat (first | exact (Kd.R_reads' HO300.out).2.2 | (with_reducible refine Kd.C_alloc ?_ _) | (with_reducible refine Kd.C_drewN ?_ _) | (with_reducible refine Kd.C_drew ?_))); (case side2 => exact (Kd.R_reads' HO300.out).2.1); rintro e w' ⟨rfl, ⟨nd, rfl⟩⟩; (try first | exact ⟨rfl, _, World.drewN_drewN _ _ _⟩ | exact ⟨rfl, _, Eq.trans (World.drewN_drewN _ _ _) (congrArg (World.drewN _) (Nat.add_assoc _ _ _))⟩)) | (go_at_call 55; (with_reducible refine (correctorref15_digits.calls k t297 t302 _ A16.out).mono ?_); rintro e w' ⟨rfl, ⟨nd, rfl⟩⟩; (try first | exact ⟨rfl, _, World.drewN_drewN _ _ _⟩ | exact ⟨rfl, _, Eq.trans (World.drewN_drewN _ _ _) (congrArg (World.drewN _) (Nat.add_assoc _ _ _))⟩))))
          (try simp only [Act.put, List.setIfInBounds_toArray, List.set_cons_zero, List.set_cons_succ])
          go_cut [29] (fun v29 wc => ∃ (kq : Nat) (x29_18 : Bool), v29 = .bool x29_18 ∧ Aside0 (correctorref15_float.j0 kq (t297.extract (t302 : Int).toNat t297.size) t302 x29_18 = some r) ∧ Aside0 (kq ≤ k) ∧ Aside0 (Below w.heap.size w wc))
          case first =>
            have H := HC19.out
            clear HC19
            by_cases c26 : ((t297.extract (t302 : Int).toNat t297.size).size : Int) > 0
            · rw [if_pos c26] at H
              have c26b0 : decide (0 < ((t297.extract (t302 : Int).toNat t297.size).size : Int)) = true := decide_eq_true c26
              have c26b1 : decide (0 < (t297.extract (t302 : Int).toNat t297.size).size) = true := decide_eq_true (by omega)
              (try (have c26n := of_decide_eq_true c26b0; simp only [ByteArray.size_extract, Nat.min_self] at c26n))
              clear c26
              (first | rw [c26b0] | (simp only [i64_w, i32_w]; rw [c26b0]) | skip)
              by_cases c27 : 0 < ((t297.extract (t302 : Int).toNat t297.size).size : Int)
              · rw [if_pos c27] at H
                have c27b0 : decide (0 < ((t297.extract (t302 : Int).toNat t297.size).size : Int)) = true := decide_eq_true c27
                have c27b1 : decide (0 < (t297.extract (t302 : Int).toNat t297.size).size) = true := decide_eq_true (by omega)
                (try (have c27n := of_decide_eq_true c27b0; simp only [ByteArray.size_extract, Nat.min_self] at c27n))
                clear c27
                have H' := Aside0.mk H
                clear H
                have p28 : 0 ≤ (0 : Int) := (by omega)
                have q28 : 0 < (t297.extract (t302 : Int).toNat t297.size).size := (by have : (0 : Int) < ((t297.extract (t302 : Int).toNat t297.size).size : Int) := of_decide_eq_true (by first | (with_reducible assumption) | assumption); omega)
                have hx28 : ∀ h : 0 < (t297.extract (t302 : Int).toNat t297.size).size, (((t297.extract (t302 : Int).toNat t297.size)[0]'h).toNat : Int) = bt (t297.extract (t302 : Int).toNat t297.size) 0 := bt_at (t297.extract (t302 : Int).toNat t297.size) 0
                clear p28
                have qi28 : (0 < ((t297.extract (t302 : Int).toNat t297.size).size : Int)) = True := eq_true (of_decide_eq_true (by first | (with_reducible assumption) | assumption))
                replace q28 := eq_true q28
                go_wp2
                repeat (go_quiet (fail); try go_wp2)
                go_meet
                case rel => exact ⟨_, (((bt (t297.extract (t302 : Int).toNat t297.size) 0) == 46)), (by first | rfl | (simp; done) | (simp [*]; done)), H', ⟨by first | omega | exact Nat.le_refl _⟩, ⟨by repeat (first | (with_reducible first | exact HB.out | apply below_alloc | apply pw_below_drewN | apply below_drew1) | exact HB.out)⟩⟩
              · rw [if_neg c27] at H
                exact absurd H (by simp)
            · rw [if_neg c26] at H
              have c26b0 : decide (0 < ((t297.extract (t302 : Int).toNat t297.size).size : Int)) = false := decide_eq_false c26
              have c26b1 : decide (0 < (t297.extract (t302 : Int).toNat t297.size).size) = false := decide_eq_false (by omega)
              (try (have c26n := of_decide_eq_false c26b0; simp only [ByteArray.size_extract, Nat.min_self] at c26n))
              clear c26
              (first | rw [c26b0] | (simp only [i64_w, i32_w]; rw [c26b0]) | skip)
              have H' := Aside0.mk H
              clear H
              go_wp2
              repeat (go_quiet (fail); try go_wp2)
              go_meet
              case rel => exact ⟨_, (false), (by first | rfl | (simp; done) | (simp [*]; done)), H', ⟨by first | omega | exact Nat.le_refl _⟩, ⟨by repeat (first | (with_reducible first | exact HB.out | apply below_alloc | apply pw_below_drewN | apply below_drew1) | exact HB.out)⟩⟩
          case rest =>
            clear HC19
            try clear c1
            try clear c2
            try clear p2
            try clear q2
            try clear hx2
            try clear qi2
            try clear c3
            try clear c4
            try clear c9
            try clear c17
            try clear c17b0
            try clear c17b1
            try clear c18
            try clear c18b0
            try clear c18b1
            try clear c26
            try clear c26b0
            try clear c26b1
            try clear c27
            try clear c27b0
            try clear c27b1
            try clear p28
            try clear q28
            try clear hx28
            try clear qi28
            try clear p28
            try clear q28
            obtain ⟨kq, x29_18, rfl, HA, HJ18, HB⟩ := hcut
            cases kq with
            | zero => exact absurd HA.out (by simp [correctorref15_float.j0])
            | succ kj18 =>
              have H := HA.out
              clear HA
              simp only [correctorref15_float.j0] at H
              have HC29 := Aside0.mk H
              clear H
              go_upto_if 29 with (fail)
              repeat (go_quiet (fail); go_upto_if 29 with (fail))
              go_cut [0, 3] (fun v0 v3 wc => ∃ (kq : Nat) (x0_28 : ByteArray) (x3_28 : Int), v0 = .string x0_28 ∧ v3 = .int .i64 x3_28 ∧ Aside0 (correctorref15_float.j1 kq x0_28 x3_28 = some r) ∧ Aside0 (kq ≤ kj18) ∧ Aside0 (Below w.heap.size w wc))
              case first =>
                have H := HC29.out
                clear HC29
                by_cases c30 : x29_18 = true
                · subst c30
                  have H1 : (if 1 ≤ ((t297.extract (t302 : Int).toNat t297.size).size : Int) then ((correctorref15_digits.f kj18 ((t297.extract (t302 : Int).toNat t297.size).extract 1 (t297.extract (t302 : Int).toNat t297.size).size)).bind fun t303 => (if 0 ≤ (wrap64 (1 + t303)) then (if (wrap64 (1 + t303)) ≤ ((t297.extract (t302 : Int).toNat t297.size).size : Int) then (correctorref15_float.j1 kj18 ((t297.extract (t302 : Int).toNat t297.size).extract ((wrap64 (1 + t303)) : Int).toNat (t297.extract (t302 : Int).toNat t297.size).size) (wrap64 (t302 + t303))) else (none)) else (none))) else (none)) = some r := by rw [if_pos rfl] at H; exact H
                  clear H
                  have H := H1
                  clear H1
                  by_cases c31 : 1 ≤ ((t297.extract (t302 : Int).toNat t297.size).size : Int)
                  · rw [if_pos c31] at H
                    have c31b0 := eq_true c31
                    have c31b1 : decide (1 ≤ ((t297.extract (t302 : Int).toNat t297.size).size : Int)) = true := decide_eq_true c31
                    (try (have c31n := c31; simp only [ByteArray.size_extract, Nat.min_self] at c31n))
                    clear c31
                    replace H := Option.bind_eq_some_iff.mp H
                    obtain ⟨t303, A320, H⟩ := H
                    replace H : (if 0 ≤ (wrap64 (1 + t303)) then (if (wrap64 (1 + t303)) ≤ ((t297.extract (t302 : Int).toNat t297.size).size : Int) then (correctorref15_float.j1 kj18 ((t297.extract (t302 : Int).toNat t297.size).extract ((wrap64 (1 + t303)) : Int).toNat (t297.extract (t302 : Int).toNat t297.size).size) (wrap64 (t302 + t303))) else (none)) else (none)) = some r := H
                    have A32 := Aside0.mk A320
                    clear A320
                    obtain ⟨ji33, hji33⟩ : ∃ j_ : Int, (wrap64 (1 + t303)) = j_ := ⟨_, rfl⟩
                    replace H : (if 0 ≤ (ji33) then (if (ji33) ≤ ((t297.extract (t302 : Int).toNat t297.size).size : Int) then (correctorref15_float.j1 kj18 ((t297.extract (t302 : Int).toNat t297.size).extract ((ji33) : Int).toNat (t297.extract (t302 : Int).toNat t297.size).size) (wrap64 (t302 + t303))) else (none)) else (none)) = some r := by first | (rw [hji33] at H; exact H) | (simp only [hji33] at H ⊢; exact H)
                    (try rw [hji33] at A32)
                    have hji33w : (IntKind.i64.wrap (1 + t303)) = ji33 := (i64_w _).trans hji33
                    by_cases c34 : 0 ≤ (ji33)
                    · rw [if_pos c34] at H
                      have c34b0 := eq_true c34
                      have c34b1 : decide (0 ≤ (ji33)) = true := decide_eq_true c34
                      clear c34
                      by_cases c35 : (ji33) ≤ ((t297.extract (t302 : Int).toNat t297.size).size : Int)
                      · rw [if_pos c35] at H
                        have c35b0 := eq_true c35
                        have c35b1 : decide ((ji33) ≤ ((t297.extract (t302 : Int).toNat t297.size).size : Int)) = true := decide_eq_true c35
                        (try (have c35n := c35; simp only [ByteArray.size_extract, Nat.min_self] at c35n))
                        (try (have c35y := eq_true (show 0 ≤ ((t297.extract (t302 : Int).toNat t297.size).size : Int) from Int.le_trans (of_eq_true (by assumption : (0 ≤ (ji33)) = True)) c35)))
                        clear c35
                        have H' := Aside0.mk H
                        clear H
                        go_wp2_with (first | (go_at_call 55; refine calls_of_args (args' := #[.string ((t297.extract (t302 : Int).toNat t297.size).extract 1 (t297.extract (t302 : Int).toNat t297.size).size)]) (by first | done | rfl | (simp only [ByteArray.size_extract, Nat.min_self]; done) | (simp only [ByteArray.size_extract, Nat.min_self]; rfl)) ?_; (with_reducible refine (correctorref15_digits.calls kj18 ((t297.extract (t302 : Int).toNat t297.size).extract 1 (t297.extract (t302 : Int).toNat t297.size).size) t303 _ A32.out).mono ?_); rintro e w' ⟨rfl, ⟨nd, rfl⟩⟩; (try first | exact ⟨rfl, _, World.drewN_drewN _ _ _⟩ | exact ⟨rfl, _, Eq.trans (World.drewN_drewN _ _ _) (congrArg (World.drewN _) (Nat.add_assoc _ _ _))⟩)))
                        repeat (go_quiet (first | (go_at_call 55; refine calls_of_args (args' := #[.string ((t297.extract (t302 : Int).toNat t297.size).extract 1 (t297.extract (t302 : Int).toNat t297.size).size)]) (by first | done | rfl | (simp only [ByteArray.size_extract, Nat.min_self]; done) | (simp only [ByteArray.size_extract, Nat.min_self]; rfl)) ?_; (with_reducible refine (correctorref15_digits.calls kj18 ((t297.extract (t302 : Int).toNat t297.size).extract 1 (t297.extract (t302 : Int).toNat t297.size).size) t303 _ A32.out).mono ?_); rintro e w' ⟨rfl, ⟨nd, rfl⟩⟩; (try first | exact ⟨rfl, _, World.drewN_drewN _ _ _⟩ | exact ⟨rfl, _, Eq.trans (World.drewN_drewN _ _ _) (congrArg (World.drewN _) (Nat.add_assoc _ _ _))⟩))); try go_wp2_with (first | (go_at_call 55; refine calls_of_args (args' := #[.string ((t297.extract (t302 : Int).toNat t297.size).extract 1 (t297.extract (t302 : Int).toNat t297.size).size)]) (by first | done | rfl | (simp only [ByteArray.size_extract, Nat.min_self]; done) | (simp only [ByteArray.size_extract, Nat.min_self]; rfl)) ?_; (with_reducible refine (correctorref15_digits.calls kj18 ((t297.extract (t302 : Int).toNat t297.size).extract 1 (t297.extract (t302 : Int).toNat t297.size).size) t303 _ A32.out).mono ?_); rintro e w' ⟨rfl, ⟨nd, rfl⟩⟩; (try first | exact ⟨rfl, _, World.drewN_drewN _ _ _⟩ | exact ⟨rfl, _, Eq.trans (World.drewN_drewN _ _ _) (congrArg (World.drewN _) (Nat.add_assoc _ _ _))⟩))))
                        go_meet
                        case rel => exact ⟨_, ((t297.extract (t302 : Int).toNat t297.size).extract ((ji33) : Int).toNat (t297.extract (t302 : Int).toNat t297.size).size), (wrap64 (t302 + t303)), (by first | rfl | (simp; done) | (simp only [← hji33] <;> (first | rfl | simp)) | (simp [*]; done)), (by first | rfl | (simp; done) | (simp [*]; done)), (by first | exact H' | (simp only [hji33]; exact H') | (rw [hji33]; exact H')), ⟨by have := HJ18.out; first | omega | exact Nat.le_refl _⟩, ⟨by repeat (first | (with_reducible first | exact HB.out | apply below_alloc | apply pw_below_drewN | apply below_drew1) | exact HB.out)⟩⟩
                      · rw [if_neg c35] at H
                        exact absurd H (by simp)
                    · rw [if_neg c34] at H
                      exact absurd H (by simp)
                  · rw [if_neg c31] at H
                    exact absurd H (by simp)
                · replace c30 := Bool.eq_false_iff.mpr c30
                  subst c30
                  have H1 : (correctorref15_float.j1 kj18 (t297.extract (t302 : Int).toNat t297.size) t302) = some r := by rw [if_neg (show ¬ (false = true) by decide)] at H; exact H
                  clear H
                  have H := H1
                  clear H1
                  have H' := Aside0.mk H
                  clear H
                  go_wp2
                  repeat (go_quiet (fail); try go_wp2)
                  go_meet
                  case rel => exact ⟨_, ((t297.extract (t302 : Int).toNat t297.size)), (t302), (by first | rfl | (simp; done) | (simp [*]; done)), (by first | rfl | (simp; done) | (simp [*]; done)), H', ⟨by have := HJ18.out; first | omega | exact Nat.le_refl _⟩, ⟨by repeat (first | (with_reducible first | exact HB.out | apply below_alloc | apply pw_below_drewN | apply below_drew1) | exact HB.out)⟩⟩
              case rest =>
                clear HC29
                try clear c1
                try clear c2
                try clear p2
                try clear q2
                try clear hx2
                try clear qi2
                try clear c3
                try clear c4
                try clear p6
                try clear c9
                try clear c17
                try clear c17b0
                try clear c17b1
                try clear c18
                try clear c18b0
                try clear c18b1
                try clear c26
                try clear c26b0
                try clear c26b1
                try clear c27
                try clear c27b0
                try clear c27b1
                try clear p28
                try clear q28
                try clear hx28
                try clear qi28
                try clear c30
                try clear c31
                try clear c31b0
                try clear c31b1
                try clear c34
                try clear c34b0
                try clear c34b1
                try clear c35
                try clear c35b0
                try clear c35b1
                try clear p2
                try clear p28
                try clear q2
                try clear q28
                obtain ⟨kq, x0_28, x3_28, rfl, rfl, HA, HJ28, HB⟩ := hcut
                cases kq with
                | zero => exact absurd HA.out (by simp [correctorref15_float.j1])
                | succ kj28 =>
                  have H := HA.out
                  clear HA
                  simp only [correctorref15_float.j1] at H
                  by_cases c36 : x3_28 = 0
                  · rw [if_pos c36] at H
                    have c36b0 : (x3_28 == 0) = true := beq_iff_eq.mpr c36
                    have c36b1 : (x3_28 != 0) = false := bne_eq_false_iff_eq.mpr c36
                    clear c36
                    obtain rfl := Option.some.inj H
                    go_wp2
                    repeat (go_quiet (fail); try go_wp2)
                    go_ret
                    exact ⟨by first | rfl | (simp [errW_none, errW_some] <;> rfl) | (simp [*, errW_none, errW_some] <;> rfl), by repeat (first | (with_reducible first | exact HB.out | apply below_alloc | apply pw_below_drewN | apply below_drew1) | exact HB.out)⟩
                  · rw [if_neg c36] at H
                    have c36b0 : (x3_28 == 0) = false := beq_eq_false_iff_ne.mpr c36
                    have c36b1 : (x3_28 != 0) = true := bne_iff_ne.mpr c36
                    have HC37 := Aside0.mk H
                    clear H
                    go_upto_region 13 with (fail)
                    repeat (go_quiet (fail); go_upto_region 13 with (fail))
                    go_cut [54] (fun v54 wc => ∃ (kq : Nat) (x54_36 : Bool), v54 = .bool x54_36 ∧ Aside0 (correctorref15_float.j2 kq x0_28 x54_36 = some r) ∧ Aside0 (kq ≤ kj28) ∧ Aside0 (Below w.heap.size w wc))
                    case first =>
                      have H := HC37.out
                      clear HC37
                      by_cases c38 : (x0_28.size : Int) > 0
                      · rw [if_pos c38] at H
                        have c38b0 : decide (0 < (x0_28.size : Int)) = true := decide_eq_true c38
                        have c38b1 : decide (0 < x0_28.size) = true := decide_eq_true (by omega)
                        clear c38
                        (first | rw [c38b0] | (simp only [i64_w, i32_w]; rw [c38b0]) | skip)
                        by_cases c39 : 0 < (x0_28.size : Int)
                        · rw [if_pos c39] at H
                          have c39b0 : decide (0 < (x0_28.size : Int)) = true := decide_eq_true c39
                          have c39b1 : decide (0 < x0_28.size) = true := decide_eq_true (by omega)
                          clear c39
                          by_cases c41 : (bt x0_28 0) = 101
                          · rw [if_pos c41] at H
                            have c41b0 : ((bt x0_28 0) == 101) = true := beq_iff_eq.mpr c41
                            have c41b1 : ((bt x0_28 0) != 101) = false := bne_eq_false_iff_eq.mpr c41
                            clear c41
                            have H' := Aside0.mk H
                            clear H
                            have p40 : 0 ≤ (0 : Int) := (by omega)
                            have q40 : 0 < x0_28.size := (by have : (0 : Int) < (x0_28.size : Int) := of_decide_eq_true (by first | (with_reducible assumption) | assumption); omega)
                            have hx40 : ∀ h : 0 < x0_28.size, ((x0_28[0]'h).toNat : Int) = bt x0_28 0 := bt_at x0_28 0
                            clear p40
                            have qi40 : (0 < (x0_28.size : Int)) = True := eq_true (of_decide_eq_true (by first | (with_reducible assumption) | assumption))
                            replace q40 := eq_true q40
                            go_wp2
                            repeat (go_quiet (fail); try go_wp2)
                            go_meet
                            case rel => exact ⟨_, (true), (by first | rfl | (simp; done) | (simp [*]; done)), H', ⟨by have := HJ18.out; have := HJ28.out; first | omega | exact Nat.le_refl _⟩, ⟨by repeat (first | (with_reducible first | exact HB.out | apply below_alloc | apply pw_below_drewN | apply below_drew1) | exact HB.out)⟩⟩
                          · rw [if_neg c41] at H
                            have c41b0 : ((bt x0_28 0) == 101) = false := beq_eq_false_iff_ne.mpr c41
                            have c41b1 : ((bt x0_28 0) != 101) = true := bne_iff_ne.mpr c41
                            have H' := Aside0.mk H
                            clear H
                            have p40 : 0 ≤ (0 : Int) := (by omega)
                            have q40 : 0 < x0_28.size := (by have : (0 : Int) < (x0_28.size : Int) := of_decide_eq_true (by first | (with_reducible assumption) | assumption); omega)
                            have hx40 : ∀ h : 0 < x0_28.size, ((x0_28[0]'h).toNat : Int) = bt x0_28 0 := bt_at x0_28 0
                            clear p40
                            have qi40 : (0 < (x0_28.size : Int)) = True := eq_true (of_decide_eq_true (by first | (with_reducible assumption) | assumption))
                            replace q40 := eq_true q40
                            have p42 : 0 ≤ (0 : Int) := (by omega)
                            have q42 : 0 < x0_28.size := (by have : (0 : Int) < (x0_28.size : Int) := of_decide_eq_true (by first | (with_reducible assumption) | assumption); omega)
                            have hx42 : ∀ h : 0 < x0_28.size, ((x0_28[0]'h).toNat : Int) = bt x0_28 0 := bt_at x0_28 0
                            clear p42
                            have qi42 : (0 < (x0_28.size : Int)) = True := eq_true (of_decide_eq_true (by first | (with_reducible assumption) | assumption))
                            replace q42 := eq_true q42
                            go_wp2
                            repeat (go_quiet (fail); try go_wp2)
                            go_meet
                            case rel => exact ⟨_, (((bt x0_28 0) == 69)), (by first | rfl | (simp; done) | (simp [*]; done)), H', ⟨by have := HJ18.out; have := HJ28.out; first | omega | exact Nat.le_refl _⟩, ⟨by repeat (first | (with_reducible first | exact HB.out | apply below_alloc | apply pw_below_drewN | apply below_drew1) | exact HB.out)⟩⟩
                        · rw [if_neg c39] at H
                          exact absurd H (by simp)
                      · rw [if_neg c38] at H
                        have c38b0 : decide (0 < (x0_28.size : Int)) = false := decide_eq_false c38
                        have c38b1 : decide (0 < x0_28.size) = false := decide_eq_false (by omega)
                        clear c38
                        (first | rw [c38b0] | (simp only [i64_w, i32_w]; rw [c38b0]) | skip)
                        have H' := Aside0.mk H
                        clear H
                        go_wp2
                        repeat (go_quiet (fail); try go_wp2)
                        go_meet
                        case rel => exact ⟨_, (false), (by first | rfl | (simp; done) | (simp [*]; done)), H', ⟨by have := HJ18.out; have := HJ28.out; first | omega | exact Nat.le_refl _⟩, ⟨by repeat (first | (with_reducible first | exact HB.out | apply below_alloc | apply pw_below_drewN | apply below_drew1) | exact HB.out)⟩⟩
                    case rest =>
                      clear HC37
                      try clear c1
                      try clear c2
                      try clear p2
                      try clear q2
                      try clear hx2
                      try clear qi2
                      try clear c3
                      try clear c4
                      try clear p4
                      try clear q4
                      try clear hx4
                      try clear qi4
                      try clear p6
                      try clear c9
                      try clear c17
                      try clear c17b0
                      try clear c17b1
                      try clear c18
                      try clear c18b0
                      try clear c18b1
                      try clear c26
                      try clear c26b0
                      try clear c26b1
                      try clear c27
                      try clear c27b0
                      try clear c27b1
                      try clear p28
                      try clear q28
                      try clear hx28
                      try clear qi28
                      try clear c30
                      try clear c31
                      try clear c31b0
                      try clear c31b1
                      try clear c34
                      try clear c34b0
                      try clear c34b1
                      try clear c35
                      try clear c35b0
                      try clear c35b1
                      try clear c36
                      try clear c36b0
                      try clear c36b1
                      try clear c38
                      try clear c38b0
                      try clear c38b1
                      try clear c39
                      try clear c39b0
                      try clear c39b1
                      try clear p40
                      try clear q40
                      try clear hx40
                      try clear qi40
                      try clear c41
                      try clear c41b0
                      try clear c41b1
                      try clear p42
                      try clear q42
                      try clear hx42
                      try clear qi42
                      try clear p2
                      try clear p28
                      try clear p40
                      try clear p42
                      try clear p6
                      try clear q2
                      try clear q28
                      try clear q40
                      try clear q42
                      obtain ⟨kq, x54_36, rfl, HA, HJ36, HB⟩ := hcut
                      cases kq with
                      | zero => exact absurd HA.out (by simp [correctorref15_float.j2])
                      | succ kj36 =>
                        have H := HA.out
                        clear HA
                        simp only [correctorref15_float.j2] at H
                        by_cases c43 : x54_36 = true
                        · subst c43
                          have H1 : (if 1 ≤ (x0_28.size : Int) then ((correctorref15_signed.f (x0_28.extract 1 x0_28.size)).bind fun bt304 => (if (bt304.2.2.size : Int) > 0 then ((correctorref15_digits.f kj36 bt304.2.2).bind fun t307 => (some (t307 == (bt304.2.2.size : Int)))) else (some false))) else (none)) = some r := by rw [if_pos rfl] at H; exact H
                          clear H
                          have H := H1
                          clear H1
                          by_cases c44 : 1 ≤ (x0_28.size : Int)
                          · rw [if_pos c44] at H
                            have c44b0 := eq_true c44
                            have c44b1 : decide (1 ≤ (x0_28.size : Int)) = true := decide_eq_true c44
                            clear c44
                            replace H := Option.bind_eq_some_iff.mp H
                            obtain ⟨⟨t304, t305, t306⟩, A450, H⟩ := H
                            replace H : (if (t306.size : Int) > 0 then ((correctorref15_digits.f kj36 t306).bind fun t307 => (some (t307 == (t306.size : Int)))) else (some false)) = some r := H
                            have A45 := Aside0.mk A450
                            clear A450
                            by_cases c46 : (t306.size : Int) > 0
                            · rw [if_pos c46] at H
                              have c46b0 : decide (0 < (t306.size : Int)) = true := decide_eq_true c46
                              have c46b1 : decide (0 < t306.size) = true := decide_eq_true (by omega)
                              clear c46
                              replace H := Option.bind_eq_some_iff.mp H
                              obtain ⟨t307, A470, H⟩ := H
                              replace H : (some (t307 == (t306.size : Int))) = some r := H
                              have A47 := Aside0.mk A470
                              clear A470
                              obtain rfl := Option.some.inj H
                              go_wp2_with (first | (go_at_call 46; (with_reducible refine (correctorref15_signed.calls (x0_28.extract 1 x0_28.size) t304 t305 t306 _ A45.out).mono ?_); rintro e w' ⟨rfl, ⟨nd, rfl⟩⟩; (try first | exact ⟨rfl, _, World.drewN_drewN _ _ _⟩ | exact ⟨rfl, _, Eq.trans (World.drewN_drewN _ _ _) (congrArg (World.drewN _) (Nat.add_assoc _ _ _))⟩)) | (go_at_call 55; (with_reducible refine (correctorref15_digits.calls kj36 t306 t307 _ A47.out).mono ?_); rintro e w' ⟨rfl, ⟨nd, rfl⟩⟩; (try first | exact ⟨rfl, _, World.drewN_drewN _ _ _⟩ | exact ⟨rfl, _, Eq.trans (World.drewN_drewN _ _ _) (congrArg (World.drewN _) (Nat.add_assoc _ _ _))⟩)))
                              repeat (go_quiet (first | (go_at_call 46; (with_reducible refine (correctorref15_signed.calls (x0_28.extract 1 x0_28.size) t304 t305 t306 _ A45.out).mono ?_); rintro e w' ⟨rfl, ⟨nd, rfl⟩⟩; (try first | exact ⟨rfl, _, World.drewN_drewN _ _ _⟩ | exact ⟨rfl, _, Eq.trans (World.drewN_drewN _ _ _) (congrArg (World.drewN _) (Nat.add_assoc _ _ _))⟩)) | (go_at_call 55; (with_reducible refine (correctorref15_digits.calls kj36 t306 t307 _ A47.out).mono ?_); rintro e w' ⟨rfl, ⟨nd, rfl⟩⟩; (try first | exact ⟨rfl, _, World.drewN_drewN _ _ _⟩ | exact ⟨rfl, _, Eq.trans (World.drewN_drewN _ _ _) (congrArg (World.drewN _) (Nat.add_assoc _ _ _))⟩))); try go_wp2_with (first | (go_at_call 46; (with_reducible refine (correctorref15_signed.calls (x0_28.extract 1 x0_28.size) t304 t305 t306 _ A45.out).mono ?_); rintro e w' ⟨rfl, ⟨nd, rfl⟩⟩; (try first | exact ⟨rfl, _, World.drewN_drewN _ _ _⟩ | exact ⟨rfl, _, Eq.trans (World.drewN_drewN _ _ _) (congrArg (World.drewN _) (Nat.add_assoc _ _ _))⟩)) | (go_at_call 55; (with_reducible refine (correctorref15_digits.calls kj36 t306 t307 _ A47.out).mono ?_); rintro e w' ⟨rfl, ⟨nd, rfl⟩⟩; (try first | exact ⟨rfl, _, World.drewN_drewN _ _ _⟩ | exact ⟨rfl, _, Eq.trans (World.drewN_drewN _ _ _) (congrArg (World.drewN _) (Nat.add_assoc _ _ _))⟩))))
                              go_ret
                              exact ⟨by first | rfl | (simp [errW_none, errW_some] <;> rfl) | (simp [*, errW_none, errW_some] <;> rfl), by repeat (first | (with_reducible first | exact HB.out | apply below_alloc | apply pw_below_drewN | apply below_drew1) | exact HB.out)⟩
                            · rw [if_neg c46] at H
                              have c46b0 : decide (0 < (t306.size : Int)) = false := decide_eq_false c46
                              have c46b1 : decide (0 < t306.size) = false := decide_eq_false (by omega)
                              clear c46
                              obtain rfl := Option.some.inj H
                              go_wp2_with (first | (go_at_call 46; (with_reducible refine (correctorref15_signed.calls (x0_28.extract 1 x0_28.size) t304 t305 t306 _ A45.out).mono ?_); rintro e w' ⟨rfl, ⟨nd, rfl⟩⟩; (try first | exact ⟨rfl, _, World.drewN_drewN _ _ _⟩ | exact ⟨rfl, _, Eq.trans (World.drewN_drewN _ _ _) (congrArg (World.drewN _) (Nat.add_assoc _ _ _))⟩)))
                              repeat (go_quiet (first | (go_at_call 46; (with_reducible refine (correctorref15_signed.calls (x0_28.extract 1 x0_28.size) t304 t305 t306 _ A45.out).mono ?_); rintro e w' ⟨rfl, ⟨nd, rfl⟩⟩; (try first | exact ⟨rfl, _, World.drewN_drewN _ _ _⟩ | exact ⟨rfl, _, Eq.trans (World.drewN_drewN _ _ _) (congrArg (World.drewN _) (Nat.add_assoc _ _ _))⟩))); try go_wp2_with (first | (go_at_call 46; (with_reducible refine (correctorref15_signed.calls (x0_28.extract 1 x0_28.size) t304 t305 t306 _ A45.out).mono ?_); rintro e w' ⟨rfl, ⟨nd, rfl⟩⟩; (try first | exact ⟨rfl, _, World.drewN_drewN _ _ _⟩ | exact ⟨rfl, _, Eq.trans (World.drewN_drewN _ _ _) (congrArg (World.drewN _) (Nat.add_assoc _ _ _))⟩))))
                              go_ret
                              exact ⟨by first | rfl | (simp [errW_none, errW_some] <;> rfl) | (simp [*, errW_none, errW_some] <;> rfl), by repeat (first | (with_reducible first | exact HB.out | apply below_alloc | apply pw_below_drewN | apply below_drew1) | exact HB.out)⟩
                          · rw [if_neg c44] at H
                            exact absurd H (by simp)
                        · replace c43 := Bool.eq_false_iff.mpr c43
                          subst c43
                          have H1 : (some x0_28.toList.isEmpty) = some r := by rw [if_neg (show ¬ (false = true) by decide)] at H; exact H
                          clear H
                          have H := H1
                          clear H1
                          obtain rfl := Option.some.inj H
                          go_wp2
                          repeat (go_quiet (fail); try go_wp2)
                          go_ret
                          exact ⟨by first | rfl | (simp [errW_none, errW_some] <;> rfl) | (simp [*, errW_none, errW_some] <;> rfl), by repeat (first | (with_reducible first | exact HB.out | apply below_alloc | apply pw_below_drewN | apply below_drew1) | exact HB.out)⟩
        · rw [if_neg c18] at H
          exact absurd H (by simp)
      · rw [if_neg c17] at H
        exact absurd H (by simp)

/-! ### correctorref15_Kind: function 30 -/
def correctorref15_Kind.f (k : Nat) (a0 : ByteArray) : Option (Int) := (correctorref15_Int.f k a0).bind fun bt308 => ((correctorref15_in.f k a0 (([(⟨#[]⟩ : ByteArray), (⟨#[126]⟩ : ByteArray), (⟨#[110, 117, 108, 108]⟩ : ByteArray), (⟨#[78, 117, 108, 108]⟩ : ByteArray), (⟨#[78, 85, 76, 76]⟩ : ByteArray)] : List ByteArray))).bind fun t313 => (if t313 = true then (some 1) else ((correctorref15_in.f k a0 (([(⟨#[116, 114, 117, 101]⟩ : ByteArray), (⟨#[84, 114, 117, 101]⟩ : ByteArray), (⟨#[84, 82, 85, 69]⟩ : ByteArray), (⟨#[102, 97, 108, 115, 101]⟩ : ByteArray), (⟨#[70, 97, 108, 115, 101]⟩ : ByteArray), (⟨#[70, 65, 76, 83, 69]⟩ : ByteArray)] : List ByteArray))).bind fun t317 => (if t317 = true then (some 2) else (if bt308.2 = true then (some 3) else ((correctorref15_float.f k a0).bind fun t318 => (if t318 = true then (some 4) else (some 5))))))))
theorem correctorref15_Kind.mono : ∀ a0 k, LeO (correctorref15_Kind.f k a0) (correctorref15_Kind.f (k + 1) a0) := by
  intro a0 k
  unfold correctorref15_Kind.f
  repeat' first
      | (with_reducible exact correctorref15_Int.mono _ _)
      | (with_reducible exact correctorref15_float.mono _ _)
      | (with_reducible exact correctorref15_in.mono _ _ _)
      | (with_reducible exact LeO.refl _)
      | (with_reducible exact LeO.none _)
      | (with_reducible refine LeO.ite ?_ ?_)
      | (with_reducible refine LeO.bind ?_ (fun _ => ?_))
      | exact correctorref15_Int.mono _ _
      | exact correctorref15_float.mono _ _
      | exact correctorref15_in.mono _ _ _
      | exact LeO.none _
      | refine LeO.ite ?_ ?_
      | refine LeO.bind ?_ (fun _ => ?_)
set_option maxHeartbeats 8000000 in
set_option maxRecDepth 100000 in
theorem correctorref15_Kind.calls (k : Nat) (a0 : ByteArray) (r : Int) (w : World) (h : correctorref15_Kind.f k a0 = some r) :
    Calls Try.prog 30 #[.string a0] w fun e w' => e = .returned (.int .i64 r) ∧ Below w.heap.size w w' := by
  have HB := Aside0.mk (Below.refl w.heap.size w)
  have H : ((correctorref15_Int.f k a0).bind fun bt308 => ((correctorref15_in.f k a0 (([(⟨#[]⟩ : ByteArray), (⟨#[126]⟩ : ByteArray), (⟨#[110, 117, 108, 108]⟩ : ByteArray), (⟨#[78, 117, 108, 108]⟩ : ByteArray), (⟨#[78, 85, 76, 76]⟩ : ByteArray)] : List ByteArray))).bind fun t313 => (if t313 = true then (some 1) else ((correctorref15_in.f k a0 (([(⟨#[116, 114, 117, 101]⟩ : ByteArray), (⟨#[84, 114, 117, 101]⟩ : ByteArray), (⟨#[84, 82, 85, 69]⟩ : ByteArray), (⟨#[102, 97, 108, 115, 101]⟩ : ByteArray), (⟨#[70, 97, 108, 115, 101]⟩ : ByteArray), (⟨#[70, 65, 76, 83, 69]⟩ : ByteArray)] : List ByteArray))).bind fun t317 => (if t317 = true then (some 2) else (if bt308.2 = true then (some 3) else ((correctorref15_float.f k a0).bind fun t318 => (if t318 = true then (some 4) else (some 5))))))))) = some r := h
  clear h
  replace H := Option.bind_eq_some_iff.mp H
  obtain ⟨⟨t308, t309⟩, A20, H⟩ := H
  replace H : ((correctorref15_in.f k a0 (([(⟨#[]⟩ : ByteArray), (⟨#[126]⟩ : ByteArray), (⟨#[110, 117, 108, 108]⟩ : ByteArray), (⟨#[78, 117, 108, 108]⟩ : ByteArray), (⟨#[78, 85, 76, 76]⟩ : ByteArray)] : List ByteArray))).bind fun t313 => (if t313 = true then (some 1) else ((correctorref15_in.f k a0 (([(⟨#[116, 114, 117, 101]⟩ : ByteArray), (⟨#[84, 114, 117, 101]⟩ : ByteArray), (⟨#[84, 82, 85, 69]⟩ : ByteArray), (⟨#[102, 97, 108, 115, 101]⟩ : ByteArray), (⟨#[70, 97, 108, 115, 101]⟩ : ByteArray), (⟨#[70, 65, 76, 83, 69]⟩ : ByteArray)] : List ByteArray))).bind fun t317 => (if t317 = true then (some 2) else (if t309 = true then (some 3) else ((correctorref15_float.f k a0).bind fun t318 => (if t318 = true then (some 4) else (some 5)))))))) = some r := H
  have A2 := Aside0.mk A20
  clear A20
  obtain ⟨y310, hy310⟩ : ∃ y_ : List ByteArray, y_ = (([(⟨#[]⟩ : ByteArray), (⟨#[126]⟩ : ByteArray), (⟨#[110, 117, 108, 108]⟩ : ByteArray), (⟨#[78, 117, 108, 108]⟩ : ByteArray), (⟨#[78, 85, 76, 76]⟩ : ByteArray)] : List ByteArray)) := ⟨_, rfl⟩
  replace H : ((correctorref15_in.f k a0 y310).bind fun t313 => (if t313 = true then (some 1) else ((correctorref15_in.f k a0 (([(⟨#[116, 114, 117, 101]⟩ : ByteArray), (⟨#[84, 114, 117, 101]⟩ : ByteArray), (⟨#[84, 82, 85, 69]⟩ : ByteArray), (⟨#[102, 97, 108, 115, 101]⟩ : ByteArray), (⟨#[70, 97, 108, 115, 101]⟩ : ByteArray), (⟨#[70, 65, 76, 83, 69]⟩ : ByteArray)] : List ByteArray))).bind fun t317 => (if t317 = true then (some 2) else (if t309 = true then (some 3) else ((correctorref15_float.f k a0).bind fun t318 => (if t318 = true then (some 4) else (some 5)))))))) = some r := by first | (rw [hy310]; with_reducible exact H) | (have H2_ := (Option.bind_some _ _).symm.trans H; rw [hy310]; with_reducible exact H2_) | (have H2_ := (Option.bind_some _ _).symm.trans H; with_reducible exact H2_) | with_reducible exact H | (rw [hy310]; exact H) | exact H
  have Ny310 := Aside0.mk hy310
  clear hy310
  replace H := Option.bind_eq_some_iff.mp H
  obtain ⟨t313, A30, H⟩ := H
  replace H : (if t313 = true then (some 1) else ((correctorref15_in.f k a0 (([(⟨#[116, 114, 117, 101]⟩ : ByteArray), (⟨#[84, 114, 117, 101]⟩ : ByteArray), (⟨#[84, 82, 85, 69]⟩ : ByteArray), (⟨#[102, 97, 108, 115, 101]⟩ : ByteArray), (⟨#[70, 97, 108, 115, 101]⟩ : ByteArray), (⟨#[70, 65, 76, 83, 69]⟩ : ByteArray)] : List ByteArray))).bind fun t317 => (if t317 = true then (some 2) else (if t309 = true then (some 3) else ((correctorref15_float.f k a0).bind fun t318 => (if t318 = true then (some 4) else (some 5))))))) = some r := H
  have A3 := Aside0.mk A30
  clear A30
  by_cases c4 : t313 = true
  · subst c4
    have H1 : (some 1) = some r := by rw [if_pos rfl] at H; exact H
    clear H
    have H := H1
    clear H1
    obtain rfl := Option.some.inj H
    go_enter Try.func30, Try.ntmps30
    go_wp2_with (first | ((with_reducible refine gate_callee (f := 29) rfl ?_); refine goesL_ (some 7) rfl rfl Try.func29 (by kernel_rfl) rfl #[.string a0] rfl (by (try simp only [List.map_toArray, List.map_cons, List.map_nil]); first | done | rfl | (simp only [List.length_drop, List.length_take]; rfl) | (simp only [ByteArray.size_extract, Nat.min_self]; done) | (simp only [ByteArray.size_extract, Nat.min_self]; rfl)) ?_; (with_reducible refine (correctorref15_Int.calls k a0 t308 t309 _ A2.out).mono ?_); rintro e w' ⟨rfl, ⟨nd, rfl⟩⟩; refine ⟨_, rfl, ?_⟩) | ((with_reducible refine gate_dst (N := 12) rfl ?_); refine Kd.R_lit Kd.string _ 9 ?hg (N := 12) ?hd (xs := ([(⟨#[]⟩ : ByteArray), (⟨#[126]⟩ : ByteArray), (⟨#[110, 117, 108, 108]⟩ : ByteArray), (⟨#[78, 117, 108, 108]⟩ : ByteArray), (⟨#[78, 85, 76, 76]⟩ : ByteArray)] : List ByteArray)) (inner := [.string (⟨#[]⟩ : ByteArray), .string (⟨#[126]⟩ : ByteArray), .string (⟨#[110, 117, 108, 108]⟩ : ByteArray), .string (⟨#[78, 117, 108, 108]⟩ : ByteArray), .string (⟨#[78, 85, 76, 76]⟩ : ByteArray)]) (ok := fun _ => True) (okp := fun _ => True) ?hr ?hp (fun _ hk => hk) trivial (Below.refl _ _) (Nat.le_refl _) (by simp) ?_; (case hd => rfl); (case hg => rfl); (case hr => first | (go_simp; done) | (go_simp; rfl)); (case hp => exact (Reps.one (show Kd.M Kd.string _ _ _ (⟨#[]⟩ : ByteArray) [.string (⟨#[]⟩ : ByteArray)] from rfl) (Reps.one (show Kd.M Kd.string _ _ _ (⟨#[126]⟩ : ByteArray) [.string (⟨#[126]⟩ : ByteArray)] from rfl) (Reps.one (show Kd.M Kd.string _ _ _ (⟨#[110, 117, 108, 108]⟩ : ByteArray) [.string (⟨#[110, 117, 108, 108]⟩ : ByteArray)] from rfl) (Reps.one (show Kd.M Kd.string _ _ _ (⟨#[78, 117, 108, 108]⟩ : ByteArray) [.string (⟨#[78, 117, 108, 108]⟩ : ByteArray)] from rfl) (Reps.one (show Kd.M Kd.string _ _ _ (⟨#[78, 85, 76, 76]⟩ : ByteArray) [.string (⟨#[78, 85, 76, 76]⟩ : ByteArray)] from rfl) (Reps.none _ _))))))); intro v311 w5 ho6 hb hg_ hnew_; clear hg_ hnew_; (first | rw [← Ny310.out] at ho6 | (simp only [Int.reduceToNat] at ho6; rw [← Ny310.out] at ho6)); have n0_ := Aside0.mk (Kd.R_lower ho6 (below_size (by repeat (first | (with_reducible first | exact HB.out | apply below_alloc | apply pw_below_drewN | apply below_drew1) | exact HB.out)))); have n1_ := Aside0.mk (below_step (by repeat (first | (with_reducible first | exact HB.out | apply below_alloc | apply pw_below_drewN | apply below_drew1) | exact HB.out)) hb); clear HB; have HO312 := n0_; have HB := n1_; clear n0_ n1_; clear hb ho6; obtain ⟨Ao7, co7, eo7⟩ := Kd.R_slice HO312.out; subst eo7) | ((with_reducible refine gate_callee (f := 47) rfl ?_); refine goesL_ (some 13) rfl rfl Try.func47 (by kernel_rfl) rfl #[.string a0, .slice Ao7 y310.length co7] rfl (by (try simp only [List.map_toArray, List.map_cons, List.map_nil]); first | done | rfl | (simp only [List.length_drop, List.length_take]; rfl) | (simp only [ByteArray.size_extract, Nat.min_self]; done) | (simp only [ByteArray.size_extract, Nat.min_self]; rfl)) ?_; (with_reducible refine (correctorref15_in.calls k a0 _ _ y310 true _ ?side1 ?side2 A3.out).mono ?_); (case side1 => repeat (first | exact (Kd.R_reads' HO312.out).2.2 | (with_reducible refine Kd.C_alloc ?_ _) | (with_reducible refine Kd.C_drewN ?_ _) | (with_reducible refine Kd.C_drew ?_))); (case side2 => exact (Kd.R_reads' HO312.out).2.1); rintro e w' ⟨rfl, ⟨nd, rfl⟩⟩; refine ⟨_, rfl, ?_⟩))
    go_ret
    exact ⟨by first | rfl | (simp [errW_none, errW_some] <;> rfl) | (simp [*, errW_none, errW_some] <;> rfl), by repeat (first | (with_reducible first | exact HB.out | apply below_alloc | apply pw_below_drewN | apply below_drew1) | exact HB.out)⟩
  · replace c4 := Bool.eq_false_iff.mpr c4
    subst c4
    have H1 : ((correctorref15_in.f k a0 (([(⟨#[116, 114, 117, 101]⟩ : ByteArray), (⟨#[84, 114, 117, 101]⟩ : ByteArray), (⟨#[84, 82, 85, 69]⟩ : ByteArray), (⟨#[102, 97, 108, 115, 101]⟩ : ByteArray), (⟨#[70, 97, 108, 115, 101]⟩ : ByteArray), (⟨#[70, 65, 76, 83, 69]⟩ : ByteArray)] : List ByteArray))).bind fun t317 => (if t317 = true then (some 2) else (if t309 = true then (some 3) else ((correctorref15_float.f k a0).bind fun t318 => (if t318 = true then (some 4) else (some 5)))))) = some r := by rw [if_neg (show ¬ (false = true) by decide)] at H; exact H
    clear H
    have H := H1
    clear H1
    obtain ⟨y314, hy314⟩ : ∃ y_ : List ByteArray, y_ = (([(⟨#[116, 114, 117, 101]⟩ : ByteArray), (⟨#[84, 114, 117, 101]⟩ : ByteArray), (⟨#[84, 82, 85, 69]⟩ : ByteArray), (⟨#[102, 97, 108, 115, 101]⟩ : ByteArray), (⟨#[70, 97, 108, 115, 101]⟩ : ByteArray), (⟨#[70, 65, 76, 83, 69]⟩ : ByteArray)] : List ByteArray)) := ⟨_, rfl⟩
    replace H : ((correctorref15_in.f k a0 y314).bind fun t317 => (if t317 = true then (some 2) else (if t309 = true then (some 3) else ((correctorref15_float.f k a0).bind fun t318 => (if t318 = true then (some 4) else (some 5)))))) = some r := by first | (rw [hy314]; with_reducible exact H) | (have H2_ := (Option.bind_some _ _).symm.trans H; rw [hy314]; with_reducible exact H2_) | (have H2_ := (Option.bind_some _ _).symm.trans H; with_reducible exact H2_) | with_reducible exact H | (rw [hy314]; exact H) | exact H
    have Ny314 := Aside0.mk hy314
    clear hy314
    replace H := Option.bind_eq_some_iff.mp H
    obtain ⟨t317, A80, H⟩ := H
    replace H : (if t317 = true then (some 2) else (if t309 = true then (some 3) else ((correctorref15_float.f k a0).bind fun t318 => (if t318 = true then (some 4) else (some 5))))) = some r := H
    have A8 := Aside0.mk A80
    clear A80
    by_cases c9 : t317 = true
    · subst c9
      have H1 : (some 2) = some r := by rw [if_pos rfl] at H; exact H
      clear H
      have H := H1
      clear H1
      obtain rfl := Option.some.inj H
      go_enter Try.func30, Try.ntmps30
      go_wp2_with (first | ((with_reducible refine gate_callee (f := 29) rfl ?_); refine goesL_ (some 7) rfl rfl Try.func29 (by kernel_rfl) rfl #[.string a0] rfl (by (try simp only [List.map_toArray, List.map_cons, List.map_nil]); first | done | rfl | (simp only [List.length_drop, List.length_take]; rfl) | (simp only [ByteArray.size_extract, Nat.min_self]; done) | (simp only [ByteArray.size_extract, Nat.min_self]; rfl)) ?_; (with_reducible refine (correctorref15_Int.calls k a0 t308 t309 _ A2.out).mono ?_); rintro e w' ⟨rfl, ⟨nd, rfl⟩⟩; refine ⟨_, rfl, ?_⟩) | ((with_reducible refine gate_dst (N := 12) rfl ?_); refine Kd.R_lit Kd.string _ 9 ?hg (N := 12) ?hd (xs := ([(⟨#[]⟩ : ByteArray), (⟨#[126]⟩ : ByteArray), (⟨#[110, 117, 108, 108]⟩ : ByteArray), (⟨#[78, 117, 108, 108]⟩ : ByteArray), (⟨#[78, 85, 76, 76]⟩ : ByteArray)] : List ByteArray)) (inner := [.string (⟨#[]⟩ : ByteArray), .string (⟨#[126]⟩ : ByteArray), .string (⟨#[110, 117, 108, 108]⟩ : ByteArray), .string (⟨#[78, 117, 108, 108]⟩ : ByteArray), .string (⟨#[78, 85, 76, 76]⟩ : ByteArray)]) (ok := fun _ => True) (okp := fun _ => True) ?hr ?hp (fun _ hk => hk) trivial (Below.refl _ _) (Nat.le_refl _) (by simp) ?_; (case hd => rfl); (case hg => rfl); (case hr => first | (go_simp; done) | (go_simp; rfl)); (case hp => exact (Reps.one (show Kd.M Kd.string _ _ _ (⟨#[]⟩ : ByteArray) [.string (⟨#[]⟩ : ByteArray)] from rfl) (Reps.one (show Kd.M Kd.string _ _ _ (⟨#[126]⟩ : ByteArray) [.string (⟨#[126]⟩ : ByteArray)] from rfl) (Reps.one (show Kd.M Kd.string _ _ _ (⟨#[110, 117, 108, 108]⟩ : ByteArray) [.string (⟨#[110, 117, 108, 108]⟩ : ByteArray)] from rfl) (Reps.one (show Kd.M Kd.string _ _ _ (⟨#[78, 117, 108, 108]⟩ : ByteArray) [.string (⟨#[78, 117, 108, 108]⟩ : ByteArray)] from rfl) (Reps.one (show Kd.M Kd.string _ _ _ (⟨#[78, 85, 76, 76]⟩ : ByteArray) [.string (⟨#[78, 85, 76, 76]⟩ : ByteArray)] from rfl) (Reps.none _ _))))))); intro v311 w10 ho11 hb hg_ hnew_; clear hg_ hnew_; (first | rw [← Ny310.out] at ho11 | (simp only [Int.reduceToNat] at ho11; rw [← Ny310.out] at ho11)); have n0_ := Aside0.mk (Kd.R_lower ho11 (below_size (by repeat (first | (with_reducible first | exact HB.out | apply below_alloc | apply pw_below_drewN | apply below_drew1) | exact HB.out)))); have n1_ := Aside0.mk (below_step (by repeat (first | (with_reducible first | exact HB.out | apply below_alloc | apply pw_below_drewN | apply below_drew1) | exact HB.out)) hb); clear HB; have HO312 := n0_; have HB := n1_; clear n0_ n1_; clear hb ho11; obtain ⟨Ao12, co12, eo12⟩ := Kd.R_slice HO312.out; subst eo12) | ((with_reducible refine gate_callee (f := 47) rfl ?_); refine goesL_ (some 13) rfl rfl Try.func47 (by kernel_rfl) rfl #[.string a0, .slice Ao12 y310.length co12] rfl (by (try simp only [List.map_toArray, List.map_cons, List.map_nil]); first | done | rfl | (simp only [List.length_drop, List.length_take]; rfl) | (simp only [ByteArray.size_extract, Nat.min_self]; done) | (simp only [ByteArray.size_extract, Nat.min_self]; rfl)) ?_; (with_reducible refine (correctorref15_in.calls k a0 _ _ y310 false _ ?side1 ?side2 A3.out).mono ?_); (case side1 => repeat (first | exact (Kd.R_reads' HO312.out).2.2 | (with_reducible refine Kd.C_alloc ?_ _) | (with_reducible refine Kd.C_drewN ?_ _) | (with_reducible refine Kd.C_drew ?_))); (case side2 => exact (Kd.R_reads' HO312.out).2.1); rintro e w' ⟨rfl, ⟨nd, rfl⟩⟩; refine ⟨_, rfl, ?_⟩) | ((with_reducible refine gate_dst (N := 16) rfl ?_); refine Kd.R_lit Kd.string _ 9 ?hg (N := 16) ?hd (xs := ([(⟨#[116, 114, 117, 101]⟩ : ByteArray), (⟨#[84, 114, 117, 101]⟩ : ByteArray), (⟨#[84, 82, 85, 69]⟩ : ByteArray), (⟨#[102, 97, 108, 115, 101]⟩ : ByteArray), (⟨#[70, 97, 108, 115, 101]⟩ : ByteArray), (⟨#[70, 65, 76, 83, 69]⟩ : ByteArray)] : List ByteArray)) (inner := [.string (⟨#[116, 114, 117, 101]⟩ : ByteArray), .string (⟨#[84, 114, 117, 101]⟩ : ByteArray), .string (⟨#[84, 82, 85, 69]⟩ : ByteArray), .string (⟨#[102, 97, 108, 115, 101]⟩ : ByteArray), .string (⟨#[70, 97, 108, 115, 101]⟩ : ByteArray), .string (⟨#[70, 65, 76, 83, 69]⟩ : ByteArray)]) (ok := fun _ => True) (okp := fun _ => True) ?hr ?hp (fun _ hk => hk) trivial (Below.refl _ _) (Nat.le_refl _) (by simp) ?_; (case hd => rfl); (case hg => rfl); (case hr => first | (go_simp; done) | (go_simp; rfl)); (case hp => exact (Reps.one (show Kd.M Kd.string _ _ _ (⟨#[116, 114, 117, 101]⟩ : ByteArray) [.string (⟨#[116, 114, 117, 101]⟩ : ByteArray)] from rfl) (Reps.one (show Kd.M Kd.string _ _ _ (⟨#[84, 114, 117, 101]⟩ : ByteArray) [.string (⟨#[84, 114, 117, 101]⟩ : ByteArray)] from rfl) (Reps.one (show Kd.M Kd.string _ _ _ (⟨#[84, 82, 85, 69]⟩ : ByteArray) [.string (⟨#[84, 82, 85, 69]⟩ : ByteArray)] from rfl) (Reps.one (show Kd.M Kd.string _ _ _ (⟨#[102, 97, 108, 115, 101]⟩ : ByteArray) [.string (⟨#[102, 97, 108, 115, 101]⟩ : ByteArray)] from rfl) (Reps.one (show Kd.M Kd.string _ _ _ (⟨#[70, 97, 108, 115, 101]⟩ : ByteArray) [.string (⟨#[70, 97, 108, 115, 101]⟩ : ByteArray)] from rfl) (Reps.one (show Kd.M Kd.string _ _ _ (⟨#[70, 65, 76, 83, 69]⟩ : ByteArray) [.string (⟨#[70, 65, 76, 83, 69]⟩ : ByteArray)] from rfl) (Reps.none _ _)))))))); intro v315 w13 ho14 hb hg_ hnew_; clear hg_ hnew_; (first | rw [← Ny314.out] at ho14 | (simp only [Int.reduceToNat] at ho14; rw [← Ny314.out] at ho14)); have n0_ := Aside0.mk (Kd.R_elder' (by (with_reducible repeat (first | apply Kd.R_alloc | apply Kd.R_drewN | apply Kd.R_drew)); exact HO312.out) (Kd.R_base ho14) hb); have n1_ := Aside0.mk (Kd.R_lower (Kd.R_new' ho14 (Kd.R_lt (by (with_reducible repeat (first | apply Kd.R_alloc | apply Kd.R_drewN | apply Kd.R_drew)); exact HO312.out))) (below_size (by repeat (first | (with_reducible first | exact HB.out | apply below_alloc | apply pw_below_drewN | apply below_drew1) | exact HB.out)))); have n2_ := Aside0.mk (below_step (by repeat (first | (with_reducible first | exact HB.out | apply below_alloc | apply pw_below_drewN | apply below_drew1) | exact HB.out)) hb); clear HO312; clear HB; have HO312 := n0_; have HO316 := n1_; have HB := n2_; clear n0_ n1_ n2_; clear hb ho14; obtain ⟨Ao15, co15, eo15⟩ := Kd.R_slice HO316.out; subst eo15) | ((with_reducible refine gate_callee (f := 47) rfl ?_); refine goesL_ (some 17) rfl rfl Try.func47 (by kernel_rfl) rfl #[.string a0, .slice Ao15 y314.length co15] rfl (by (try simp only [List.map_toArray, List.map_cons, List.map_nil]); first | done | rfl | (simp only [List.length_drop, List.length_take]; rfl) | (simp only [ByteArray.size_extract, Nat.min_self]; done) | (simp only [ByteArray.size_extract, Nat.min_self]; rfl)) ?_; (with_reducible refine (correctorref15_in.calls k a0 _ _ y314 true _ ?side1 ?side2 A8.out).mono ?_); (case side1 => repeat (first | exact (Kd.R_reads' HO316.out).2.2 | (with_reducible refine Kd.C_alloc ?_ _) | (with_reducible refine Kd.C_drewN ?_ _) | (with_reducible refine Kd.C_drew ?_))); (case side2 => exact (Kd.R_reads' HO316.out).2.1); rintro e w' ⟨rfl, ⟨nd, rfl⟩⟩; refine ⟨_, rfl, ?_⟩))
      go_ret
      exact ⟨by first | rfl | (simp [errW_none, errW_some] <;> rfl) | (simp [*, errW_none, errW_some] <;> rfl), by repeat (first | (with_reducible first | exact HB.out | apply below_alloc | apply pw_below_drewN | apply below_drew1) | exact HB.out)⟩
    · replace c9 := Bool.eq_false_iff.mpr c9
      subst c9
      have H1 : (if t309 = true then (some 3) else ((correctorref15_float.f k a0).bind fun t318 => (if t318 = true then (some 4) else (some 5)))) = some r := by rw [if_neg (show ¬ (false = true) by decide)] at H; exact H
      clear H
      have H := H1
      clear H1
      by_cases c16 : t309 = true
      · subst c16
        have H1 : (some 3) = some r := by rw [if_pos rfl] at H; exact H
        clear H
        have H := H1
        clear H1
        obtain rfl := Option.some.inj H
        go_enter Try.func30, Try.ntmps30
        go_wp2_with (first | ((with_reducible refine gate_callee (f := 29) rfl ?_); refine goesL_ (some 7) rfl rfl Try.func29 (by kernel_rfl) rfl #[.string a0] rfl (by (try simp only [List.map_toArray, List.map_cons, List.map_nil]); first | done | rfl | (simp only [List.length_drop, List.length_take]; rfl) | (simp only [ByteArray.size_extract, Nat.min_self]; done) | (simp only [ByteArray.size_extract, Nat.min_self]; rfl)) ?_; (with_reducible refine (correctorref15_Int.calls k a0 t308 true _ A2.out).mono ?_); rintro e w' ⟨rfl, ⟨nd, rfl⟩⟩; refine ⟨_, rfl, ?_⟩) | ((with_reducible refine gate_dst (N := 12) rfl ?_); refine Kd.R_lit Kd.string _ 9 ?hg (N := 12) ?hd (xs := ([(⟨#[]⟩ : ByteArray), (⟨#[126]⟩ : ByteArray), (⟨#[110, 117, 108, 108]⟩ : ByteArray), (⟨#[78, 117, 108, 108]⟩ : ByteArray), (⟨#[78, 85, 76, 76]⟩ : ByteArray)] : List ByteArray)) (inner := [.string (⟨#[]⟩ : ByteArray), .string (⟨#[126]⟩ : ByteArray), .string (⟨#[110, 117, 108, 108]⟩ : ByteArray), .string (⟨#[78, 117, 108, 108]⟩ : ByteArray), .string (⟨#[78, 85, 76, 76]⟩ : ByteArray)]) (ok := fun _ => True) (okp := fun _ => True) ?hr ?hp (fun _ hk => hk) trivial (Below.refl _ _) (Nat.le_refl _) (by simp) ?_; (case hd => rfl); (case hg => rfl); (case hr => first | (go_simp; done) | (go_simp; rfl)); (case hp => exact (Reps.one (show Kd.M Kd.string _ _ _ (⟨#[]⟩ : ByteArray) [.string (⟨#[]⟩ : ByteArray)] from rfl) (Reps.one (show Kd.M Kd.string _ _ _ (⟨#[126]⟩ : ByteArray) [.string (⟨#[126]⟩ : ByteArray)] from rfl) (Reps.one (show Kd.M Kd.string _ _ _ (⟨#[110, 117, 108, 108]⟩ : ByteArray) [.string (⟨#[110, 117, 108, 108]⟩ : ByteArray)] from rfl) (Reps.one (show Kd.M Kd.string _ _ _ (⟨#[78, 117, 108, 108]⟩ : ByteArray) [.string (⟨#[78, 117, 108, 108]⟩ : ByteArray)] from rfl) (Reps.one (show Kd.M Kd.string _ _ _ (⟨#[78, 85, 76, 76]⟩ : ByteArray) [.string (⟨#[78, 85, 76, 76]⟩ : ByteArray)] from rfl) (Reps.none _ _))))))); intro v311 w17 ho18 hb hg_ hnew_; clear hg_ hnew_; (first | rw [← Ny310.out] at ho18 | (simp only [Int.reduceToNat] at ho18; rw [← Ny310.out] at ho18)); have n0_ := Aside0.mk (Kd.R_lower ho18 (below_size (by repeat (first | (with_reducible first | exact HB.out | apply below_alloc | apply pw_below_drewN | apply below_drew1) | exact HB.out)))); have n1_ := Aside0.mk (below_step (by repeat (first | (with_reducible first | exact HB.out | apply below_alloc | apply pw_below_drewN | apply below_drew1) | exact HB.out)) hb); clear HB; have HO312 := n0_; have HB := n1_; clear n0_ n1_; clear hb ho18; obtain ⟨Ao19, co19, eo19⟩ := Kd.R_slice HO312.out; subst eo19) | ((with_reducible refine gate_callee (f := 47) rfl ?_); refine goesL_ (some 13) rfl rfl Try.func47 (by kernel_rfl) rfl #[.string a0, .slice Ao19 y310.length co19] rfl (by (try simp only [List.map_toArray, List.map_cons, List.map_nil]); first | done | rfl | (simp only [List.length_drop, List.length_take]; rfl) | (simp only [ByteArray.size_extract, Nat.min_self]; done) | (simp only [ByteArray.size_extract, Nat.min_self]; rfl)) ?_; (with_reducible refine (correctorref15_in.calls k a0 _ _ y310 false _ ?side1 ?side2 A3.out).mono ?_); (case side1 => repeat (first | exact (Kd.R_reads' HO312.out).2.2 | (with_reducible refine Kd.C_alloc ?_ _) | (with_reducible refine Kd.C_drewN ?_ _) | (with_reducible refine Kd.C_drew ?_))); (case side2 => exact (Kd.R_reads' HO312.out).2.1); rintro e w' ⟨rfl, ⟨nd, rfl⟩⟩; refine ⟨_, rfl, ?_⟩) | ((with_reducible refine gate_dst (N := 16) rfl ?_); refine Kd.R_lit Kd.string _ 9 ?hg (N := 16) ?hd (xs := ([(⟨#[116, 114, 117, 101]⟩ : ByteArray), (⟨#[84, 114, 117, 101]⟩ : ByteArray), (⟨#[84, 82, 85, 69]⟩ : ByteArray), (⟨#[102, 97, 108, 115, 101]⟩ : ByteArray), (⟨#[70, 97, 108, 115, 101]⟩ : ByteArray), (⟨#[70, 65, 76, 83, 69]⟩ : ByteArray)] : List ByteArray)) (inner := [.string (⟨#[116, 114, 117, 101]⟩ : ByteArray), .string (⟨#[84, 114, 117, 101]⟩ : ByteArray), .string (⟨#[84, 82, 85, 69]⟩ : ByteArray), .string (⟨#[102, 97, 108, 115, 101]⟩ : ByteArray), .string (⟨#[70, 97, 108, 115, 101]⟩ : ByteArray), .string (⟨#[70, 65, 76, 83, 69]⟩ : ByteArray)]) (ok := fun _ => True) (okp := fun _ => True) ?hr ?hp (fun _ hk => hk) trivial (Below.refl _ _) (Nat.le_refl _) (by simp) ?_; (case hd => rfl); (case hg => rfl); (case hr => first | (go_simp; done) | (go_simp; rfl)); (case hp => exact (Reps.one (show Kd.M Kd.string _ _ _ (⟨#[116, 114, 117, 101]⟩ : ByteArray) [.string (⟨#[116, 114, 117, 101]⟩ : ByteArray)] from rfl) (Reps.one (show Kd.M Kd.string _ _ _ (⟨#[84, 114, 117, 101]⟩ : ByteArray) [.string (⟨#[84, 114, 117, 101]⟩ : ByteArray)] from rfl) (Reps.one (show Kd.M Kd.string _ _ _ (⟨#[84, 82, 85, 69]⟩ : ByteArray) [.string (⟨#[84, 82, 85, 69]⟩ : ByteArray)] from rfl) (Reps.one (show Kd.M Kd.string _ _ _ (⟨#[102, 97, 108, 115, 101]⟩ : ByteArray) [.string (⟨#[102, 97, 108, 115, 101]⟩ : ByteArray)] from rfl) (Reps.one (show Kd.M Kd.string _ _ _ (⟨#[70, 97, 108, 115, 101]⟩ : ByteArray) [.string (⟨#[70, 97, 108, 115, 101]⟩ : ByteArray)] from rfl) (Reps.one (show Kd.M Kd.string _ _ _ (⟨#[70, 65, 76, 83, 69]⟩ : ByteArray) [.string (⟨#[70, 65, 76, 83, 69]⟩ : ByteArray)] from rfl) (Reps.none _ _)))))))); intro v315 w20 ho21 hb hg_ hnew_; clear hg_ hnew_; (first | rw [← Ny314.out] at ho21 | (simp only [Int.reduceToNat] at ho21; rw [← Ny314.out] at ho21)); have n0_ := Aside0.mk (Kd.R_elder' (by (with_reducible repeat (first | apply Kd.R_alloc | apply Kd.R_drewN | apply Kd.R_drew)); exact HO312.out) (Kd.R_base ho21) hb); have n1_ := Aside0.mk (Kd.R_lower (Kd.R_new' ho21 (Kd.R_lt (by (with_reducible repeat (first | apply Kd.R_alloc | apply Kd.R_drewN | apply Kd.R_drew)); exact HO312.out))) (below_size (by repeat (first | (with_reducible first | exact HB.out | apply below_alloc | apply pw_below_drewN | apply below_drew1) | exact HB.out)))); have n2_ := Aside0.mk (below_step (by repeat (first | (with_reducible first | exact HB.out | apply below_alloc | apply pw_below_drewN | apply below_drew1) | exact HB.out)) hb); clear HO312; clear HB; have HO312 := n0_; have HO316 := n1_; have HB := n2_; clear n0_ n1_ n2_; clear hb ho21; obtain ⟨Ao22, co22, eo22⟩ := Kd.R_slice HO316.out; subst eo22) | ((with_reducible refine gate_callee (f := 47) rfl ?_); refine goesL_ (some 17) rfl rfl Try.func47 (by kernel_rfl) rfl #[.string a0, .slice Ao22 y314.length co22] rfl (by (try simp only [List.map_toArray, List.map_cons, List.map_nil]); first | done | rfl | (simp only [List.length_drop, List.length_take]; rfl) | (simp only [ByteArray.size_extract, Nat.min_self]; done) | (simp only [ByteArray.size_extract, Nat.min_self]; rfl)) ?_; (with_reducible refine (correctorref15_in.calls k a0 _ _ y314 false _ ?side1 ?side2 A8.out).mono ?_); (case side1 => repeat (first | exact (Kd.R_reads' HO316.out).2.2 | (with_reducible refine Kd.C_alloc ?_ _) | (with_reducible refine Kd.C_drewN ?_ _) | (with_reducible refine Kd.C_drew ?_))); (case side2 => exact (Kd.R_reads' HO316.out).2.1); rintro e w' ⟨rfl, ⟨nd, rfl⟩⟩; refine ⟨_, rfl, ?_⟩))
        go_ret
        exact ⟨by first | rfl | (simp [errW_none, errW_some] <;> rfl) | (simp [*, errW_none, errW_some] <;> rfl), by repeat (first | (with_reducible first | exact HB.out | apply below_alloc | apply pw_below_drewN | apply below_drew1) | exact HB.out)⟩
      · replace c16 := Bool.eq_false_iff.mpr c16
        subst c16
        have H1 : ((correctorref15_float.f k a0).bind fun t318 => (if t318 = true then (some 4) else (some 5))) = some r := by rw [if_neg (show ¬ (false = true) by decide)] at H; exact H
        clear H
        have H := H1
        clear H1
        replace H := Option.bind_eq_some_iff.mp H
        obtain ⟨t318, A230, H⟩ := H
        replace H : (if t318 = true then (some 4) else (some 5)) = some r := H
        have A23 := Aside0.mk A230
        clear A230
        by_cases c24 : t318 = true
        · subst c24
          have H1 : (some 4) = some r := by rw [if_pos rfl] at H; exact H
          clear H
          have H := H1
          clear H1
          obtain rfl := Option.some.inj H
          go_enter Try.func30, Try.ntmps30
          go_wp2_with (first | ((with_reducible refine gate_callee (f := 29) rfl ?_); refine goesL_ (some 7) rfl rfl Try.func29 (by kernel_rfl) rfl #[.string a0] rfl (by (try simp only [List.map_toArray, List.map_cons, List.map_nil]); first | done | rfl | (simp only [List.length_drop, List.length_take]; rfl) | (simp only [ByteArray.size_extract, Nat.min_self]; done) | (simp only [ByteArray.size_extract, Nat.min_self]; rfl)) ?_; (with_reducible refine (correctorref15_Int.calls k a0 t308 false _ A2.out).mono ?_); rintro e w' ⟨rfl, ⟨nd, rfl⟩⟩; refine ⟨_, rfl, ?_⟩) | ((with_reducible refine gate_dst (N := 12) rfl ?_); refine Kd.R_lit Kd.string _ 9 ?hg (N := 12) ?hd (xs := ([(⟨#[]⟩ : ByteArray), (⟨#[126]⟩ : ByteArray), (⟨#[110, 117, 108, 108]⟩ : ByteArray), (⟨#[78, 117, 108, 108]⟩ : ByteArray), (⟨#[78, 85, 76, 76]⟩ : ByteArray)] : List ByteArray)) (inner := [.string (⟨#[]⟩ : ByteArray), .string (⟨#[126]⟩ : ByteArray), .string (⟨#[110, 117, 108, 108]⟩ : ByteArray), .string (⟨#[78, 117, 108, 108]⟩ : ByteArray), .string (⟨#[78, 85, 76, 76]⟩ : ByteArray)]) (ok := fun _ => True) (okp := fun _ => True) ?hr ?hp (fun _ hk => hk) trivial (Below.refl _ _) (Nat.le_refl _) (by simp) ?_; (case hd => rfl); (case hg => rfl); (case hr => first | (go_simp; done) | (go_simp; rfl)); (case hp => exact (Reps.one (show Kd.M Kd.string _ _ _ (⟨#[]⟩ : ByteArray) [.string (⟨#[]⟩ : ByteArray)] from rfl) (Reps.one (show Kd.M Kd.string _ _ _ (⟨#[126]⟩ : ByteArray) [.string (⟨#[126]⟩ : ByteArray)] from rfl) (Reps.one (show Kd.M Kd.string _ _ _ (⟨#[110, 117, 108, 108]⟩ : ByteArray) [.string (⟨#[110, 117, 108, 108]⟩ : ByteArray)] from rfl) (Reps.one (show Kd.M Kd.string _ _ _ (⟨#[78, 117, 108, 108]⟩ : ByteArray) [.string (⟨#[78, 117, 108, 108]⟩ : ByteArray)] from rfl) (Reps.one (show Kd.M Kd.string _ _ _ (⟨#[78, 85, 76, 76]⟩ : ByteArray) [.string (⟨#[78, 85, 76, 76]⟩ : ByteArray)] from rfl) (Reps.none _ _))))))); intro v311 w25 ho26 hb hg_ hnew_; clear hg_ hnew_; (first | rw [← Ny310.out] at ho26 | (simp only [Int.reduceToNat] at ho26; rw [← Ny310.out] at ho26)); have n0_ := Aside0.mk (Kd.R_lower ho26 (below_size (by repeat (first | (with_reducible first | exact HB.out | apply below_alloc | apply pw_below_drewN | apply below_drew1) | exact HB.out)))); have n1_ := Aside0.mk (below_step (by repeat (first | (with_reducible first | exact HB.out | apply below_alloc | apply pw_below_drewN | apply below_drew1) | exact HB.out)) hb); clear HB; have HO312 := n0_; have HB := n1_; clear n0_ n1_; clear hb ho26; obtain ⟨Ao27, co27, eo27⟩ := Kd.R_slice HO312.out; subst eo27) | ((with_reducible refine gate_callee (f := 47) rfl ?_); refine goesL_ (some 13) rfl rfl Try.func47 (by kernel_rfl) rfl #[.string a0, .slice Ao27 y310.length co27] rfl (by (try simp only [List.map_toArray, List.map_cons, List.map_nil]); first | done | rfl | (simp only [List.length_drop, List.length_take]; rfl) | (simp only [ByteArray.size_extract, Nat.min_self]; done) | (simp only [ByteArray.size_extract, Nat.min_self]; rfl)) ?_; (with_reducible refine (correctorref15_in.calls k a0 _ _ y310 false _ ?side1 ?side2 A3.out).mono ?_); (case side1 => repeat (first | exact (Kd.R_reads' HO312.out).2.2 | (with_reducible refine Kd.C_alloc ?_ _) | (with_reducible refine Kd.C_drewN ?_ _) | (with_reducible refine Kd.C_drew ?_))); (case side2 => exact (Kd.R_reads' HO312.out).2.1); rintro e w' ⟨rfl, ⟨nd, rfl⟩⟩; refine ⟨_, rfl, ?_⟩) | ((with_reducible refine gate_dst (N := 16) rfl ?_); refine Kd.R_lit Kd.string _ 9 ?hg (N := 16) ?hd (xs := ([(⟨#[116, 114, 117, 101]⟩ : ByteArray), (⟨#[84, 114, 117, 101]⟩ : ByteArray), (⟨#[84, 82, 85, 69]⟩ : ByteArray), (⟨#[102, 97, 108, 115, 101]⟩ : ByteArray), (⟨#[70, 97, 108, 115, 101]⟩ : ByteArray), (⟨#[70, 65, 76, 83, 69]⟩ : ByteArray)] : List ByteArray)) (inner := [.string (⟨#[116, 114, 117, 101]⟩ : ByteArray), .string (⟨#[84, 114, 117, 101]⟩ : ByteArray), .string (⟨#[84, 82, 85, 69]⟩ : ByteArray), .string (⟨#[102, 97, 108, 115, 101]⟩ : ByteArray), .string (⟨#[70, 97, 108, 115, 101]⟩ : ByteArray), .string (⟨#[70, 65, 76, 83, 69]⟩ : ByteArray)]) (ok := fun _ => True) (okp := fun _ => True) ?hr ?hp (fun _ hk => hk) trivial (Below.refl _ _) (Nat.le_refl _) (by simp) ?_; (case hd => rfl); (case hg => rfl); (case hr => first | (go_simp; done) | (go_simp; rfl)); (case hp => exact (Reps.one (show Kd.M Kd.string _ _ _ (⟨#[116, 114, 117, 101]⟩ : ByteArray) [.string (⟨#[116, 114, 117, 101]⟩ : ByteArray)] from rfl) (Reps.one (show Kd.M Kd.string _ _ _ (⟨#[84, 114, 117, 101]⟩ : ByteArray) [.string (⟨#[84, 114, 117, 101]⟩ : ByteArray)] from rfl) (Reps.one (show Kd.M Kd.string _ _ _ (⟨#[84, 82, 85, 69]⟩ : ByteArray) [.string (⟨#[84, 82, 85, 69]⟩ : ByteArray)] from rfl) (Reps.one (show Kd.M Kd.string _ _ _ (⟨#[102, 97, 108, 115, 101]⟩ : ByteArray) [.string (⟨#[102, 97, 108, 115, 101]⟩ : ByteArray)] from rfl) (Reps.one (show Kd.M Kd.string _ _ _ (⟨#[70, 97, 108, 115, 101]⟩ : ByteArray) [.string (⟨#[70, 97, 108, 115, 101]⟩ : ByteArray)] from rfl) (Reps.one (show Kd.M Kd.string _ _ _ (⟨#[70, 65, 76, 83, 69]⟩ : ByteArray) [.string (⟨#[70, 65, 76, 83, 69]⟩ : ByteArray)] from rfl) (Reps.none _ _)))))))); intro v315 w28 ho29 hb hg_ hnew_; clear hg_ hnew_; (first | rw [← Ny314.out] at ho29 | (simp only [Int.reduceToNat] at ho29; rw [← Ny314.out] at ho29)); have n0_ := Aside0.mk (Kd.R_elder' (by (with_reducible repeat (first | apply Kd.R_alloc | apply Kd.R_drewN | apply Kd.R_drew)); exact HO312.out) (Kd.R_base ho29) hb); have n1_ := Aside0.mk (Kd.R_lower (Kd.R_new' ho29 (Kd.R_lt (by (with_reducible repeat (first | apply Kd.R_alloc | apply Kd.R_drewN | apply Kd.R_drew)); exact HO312.out))) (below_size (by repeat (first | (with_reducible first | exact HB.out | apply below_alloc | apply pw_below_drewN | apply below_drew1) | exact HB.out)))); have n2_ := Aside0.mk (below_step (by repeat (first | (with_reducible first | exact HB.out | apply below_alloc | apply pw_below_drewN | apply below_drew1) | exact HB.out)) hb); clear HO312; clear HB; have HO312 := n0_; have HO316 := n1_; have HB := n2_; clear n0_ n1_ n2_; clear hb ho29; obtain ⟨Ao30, co30, eo30⟩ := Kd.R_slice HO316.out; subst eo30) | ((with_reducible refine gate_callee (f := 47) rfl ?_); refine goesL_ (some 17) rfl rfl Try.func47 (by kernel_rfl) rfl #[.string a0, .slice Ao30 y314.length co30] rfl (by (try simp only [List.map_toArray, List.map_cons, List.map_nil]); first | done | rfl | (simp only [List.length_drop, List.length_take]; rfl) | (simp only [ByteArray.size_extract, Nat.min_self]; done) | (simp only [ByteArray.size_extract, Nat.min_self]; rfl)) ?_; (with_reducible refine (correctorref15_in.calls k a0 _ _ y314 false _ ?side1 ?side2 A8.out).mono ?_); (case side1 => repeat (first | exact (Kd.R_reads' HO316.out).2.2 | (with_reducible refine Kd.C_alloc ?_ _) | (with_reducible refine Kd.C_drewN ?_ _) | (with_reducible refine Kd.C_drew ?_))); (case side2 => exact (Kd.R_reads' HO316.out).2.1); rintro e w' ⟨rfl, ⟨nd, rfl⟩⟩; refine ⟨_, rfl, ?_⟩) | ((with_reducible refine gate_callee (f := 48) rfl ?_); refine goesL_ (some 22) rfl rfl Try.func48 (by kernel_rfl) rfl #[.string a0] rfl (by (try simp only [List.map_toArray, List.map_cons, List.map_nil]); first | done | rfl | (simp only [List.length_drop, List.length_take]; rfl) | (simp only [ByteArray.size_extract, Nat.min_self]; done) | (simp only [ByteArray.size_extract, Nat.min_self]; rfl)) ?_; (with_reducible refine (correctorref15_float.calls k a0 true _ A23.out).mono ?_); rintro e w31 ⟨rfl, hb⟩; refine ⟨_, rfl, ?_⟩; have n0_ := Aside0.mk (Kd.R_below (by (with_reducible repeat (first | apply Kd.R_alloc | apply Kd.R_drewN | apply Kd.R_drew)); exact HO312.out) hb); have n1_ := Aside0.mk (Kd.R_below (by (with_reducible repeat (first | apply Kd.R_alloc | apply Kd.R_drewN | apply Kd.R_drew)); exact HO316.out) hb); have n2_ := Aside0.mk (below_step (by repeat (first | (with_reducible first | exact HB.out | apply below_alloc | apply pw_below_drewN | apply below_drew1) | exact HB.out)) hb); clear HO312; clear HO316; clear HB; have HO312 := n0_; have HO316 := n1_; have HB := n2_; clear n0_ n1_ n2_; (try clear hb); (try clear hb2); (try clear hk); (try clear hi)))
          go_ret
          exact ⟨by first | rfl | (simp [errW_none, errW_some] <;> rfl) | (simp [*, errW_none, errW_some] <;> rfl), by repeat (first | (with_reducible first | exact HB.out | apply below_alloc | apply pw_below_drewN | apply below_drew1) | exact HB.out)⟩
        · replace c24 := Bool.eq_false_iff.mpr c24
          subst c24
          have H1 : (some 5) = some r := by rw [if_neg (show ¬ (false = true) by decide)] at H; exact H
          clear H
          have H := H1
          clear H1
          obtain rfl := Option.some.inj H
          go_enter Try.func30, Try.ntmps30
          go_wp2_with (first | ((with_reducible refine gate_callee (f := 29) rfl ?_); refine goesL_ (some 7) rfl rfl Try.func29 (by kernel_rfl) rfl #[.string a0] rfl (by (try simp only [List.map_toArray, List.map_cons, List.map_nil]); first | done | rfl | (simp only [List.length_drop, List.length_take]; rfl) | (simp only [ByteArray.size_extract, Nat.min_self]; done) | (simp only [ByteArray.size_extract, Nat.min_self]; rfl)) ?_; (with_reducible refine (correctorref15_Int.calls k a0 t308 false _ A2.out).mono ?_); rintro e w' ⟨rfl, ⟨nd, rfl⟩⟩; refine ⟨_, rfl, ?_⟩) | ((with_reducible refine gate_dst (N := 12) rfl ?_); refine Kd.R_lit Kd.string _ 9 ?hg (N := 12) ?hd (xs := ([(⟨#[]⟩ : ByteArray), (⟨#[126]⟩ : ByteArray), (⟨#[110, 117, 108, 108]⟩ : ByteArray), (⟨#[78, 117, 108, 108]⟩ : ByteArray), (⟨#[78, 85, 76, 76]⟩ : ByteArray)] : List ByteArray)) (inner := [.string (⟨#[]⟩ : ByteArray), .string (⟨#[126]⟩ : ByteArray), .string (⟨#[110, 117, 108, 108]⟩ : ByteArray), .string (⟨#[78, 117, 108, 108]⟩ : ByteArray), .string (⟨#[78, 85, 76, 76]⟩ : ByteArray)]) (ok := fun _ => True) (okp := fun _ => True) ?hr ?hp (fun _ hk => hk) trivial (Below.refl _ _) (Nat.le_refl _) (by simp) ?_; (case hd => rfl); (case hg => rfl); (case hr => first | (go_simp; done) | (go_simp; rfl)); (case hp => exact (Reps.one (show Kd.M Kd.string _ _ _ (⟨#[]⟩ : ByteArray) [.string (⟨#[]⟩ : ByteArray)] from rfl) (Reps.one (show Kd.M Kd.string _ _ _ (⟨#[126]⟩ : ByteArray) [.string (⟨#[126]⟩ : ByteArray)] from rfl) (Reps.one (show Kd.M Kd.string _ _ _ (⟨#[110, 117, 108, 108]⟩ : ByteArray) [.string (⟨#[110, 117, 108, 108]⟩ : ByteArray)] from rfl) (Reps.one (show Kd.M Kd.string _ _ _ (⟨#[78, 117, 108, 108]⟩ : ByteArray) [.string (⟨#[78, 117, 108, 108]⟩ : ByteArray)] from rfl) (Reps.one (show Kd.M Kd.string _ _ _ (⟨#[78, 85, 76, 76]⟩ : ByteArray) [.string (⟨#[78, 85, 76, 76]⟩ : ByteArray)] from rfl) (Reps.none _ _))))))); intro v311 w32 ho33 hb hg_ hnew_; clear hg_ hnew_; (first | rw [← Ny310.out] at ho33 | (simp only [Int.reduceToNat] at ho33; rw [← Ny310.out] at ho33)); have n0_ := Aside0.mk (Kd.R_lower ho33 (below_size (by repeat (first | (with_reducible first | exact HB.out | apply below_alloc | apply pw_below_drewN | apply below_drew1) | exact HB.out)))); have n1_ := Aside0.mk (below_step (by repeat (first | (with_reducible first | exact HB.out | apply below_alloc | apply pw_below_drewN | apply below_drew1) | exact HB.out)) hb); clear HB; have HO312 := n0_; have HB := n1_; clear n0_ n1_; clear hb ho33; obtain ⟨Ao34, co34, eo34⟩ := Kd.R_slice HO312.out; subst eo34) | ((with_reducible refine gate_callee (f := 47) rfl ?_); refine goesL_ (some 13) rfl rfl Try.func47 (by kernel_rfl) rfl #[.string a0, .slice Ao34 y310.length co34] rfl (by (try simp only [List.map_toArray, List.map_cons, List.map_nil]); first | done | rfl | (simp only [List.length_drop, List.length_take]; rfl) | (simp only [ByteArray.size_extract, Nat.min_self]; done) | (simp only [ByteArray.size_extract, Nat.min_self]; rfl)) ?_; (with_reducible refine (correctorref15_in.calls k a0 _ _ y310 false _ ?side1 ?side2 A3.out).mono ?_); (case side1 => repeat (first | exact (Kd.R_reads' HO312.out).2.2 | (with_reducible refine Kd.C_alloc ?_ _) | (with_reducible refine Kd.C_drewN ?_ _) | (with_reducible refine Kd.C_drew ?_))); (case side2 => exact (Kd.R_reads' HO312.out).2.1); rintro e w' ⟨rfl, ⟨nd, rfl⟩⟩; refine ⟨_, rfl, ?_⟩) | ((with_reducible refine gate_dst (N := 16) rfl ?_); refine Kd.R_lit Kd.string _ 9 ?hg (N := 16) ?hd (xs := ([(⟨#[116, 114, 117, 101]⟩ : ByteArray), (⟨#[84, 114, 117, 101]⟩ : ByteArray), (⟨#[84, 82, 85, 69]⟩ : ByteArray), (⟨#[102, 97, 108, 115, 101]⟩ : ByteArray), (⟨#[70, 97, 108, 115, 101]⟩ : ByteArray), (⟨#[70, 65, 76, 83, 69]⟩ : ByteArray)] : List ByteArray)) (inner := [.string (⟨#[116, 114, 117, 101]⟩ : ByteArray), .string (⟨#[84, 114, 117, 101]⟩ : ByteArray), .string (⟨#[84, 82, 85, 69]⟩ : ByteArray), .string (⟨#[102, 97, 108, 115, 101]⟩ : ByteArray), .string (⟨#[70, 97, 108, 115, 101]⟩ : ByteArray), .string (⟨#[70, 65, 76, 83, 69]⟩ : ByteArray)]) (ok := fun _ => True) (okp := fun _ => True) ?hr ?hp (fun _ hk => hk) trivial (Below.refl _ _) (Nat.le_refl _) (by simp) ?_; (case hd => rfl); (case hg => rfl); (case hr => first | (go_simp; done) | (go_simp; rfl)); (case hp => exact (Reps.one (show Kd.M Kd.string _ _ _ (⟨#[116, 114, 117, 101]⟩ : ByteArray) [.string (⟨#[116, 114, 117, 101]⟩ : ByteArray)] from rfl) (Reps.one (show Kd.M Kd.string _ _ _ (⟨#[84, 114, 117, 101]⟩ : ByteArray) [.string (⟨#[84, 114, 117, 101]⟩ : ByteArray)] from rfl) (Reps.one (show Kd.M Kd.string _ _ _ (⟨#[84, 82, 85, 69]⟩ : ByteArray) [.string (⟨#[84, 82, 85, 69]⟩ : ByteArray)] from rfl) (Reps.one (show Kd.M Kd.string _ _ _ (⟨#[102, 97, 108, 115, 101]⟩ : ByteArray) [.string (⟨#[102, 97, 108, 115, 101]⟩ : ByteArray)] from rfl) (Reps.one (show Kd.M Kd.string _ _ _ (⟨#[70, 97, 108, 115, 101]⟩ : ByteArray) [.string (⟨#[70, 97, 108, 115, 101]⟩ : ByteArray)] from rfl) (Reps.one (show Kd.M Kd.string _ _ _ (⟨#[70, 65, 76, 83, 69]⟩ : ByteArray) [.string (⟨#[70, 65, 76, 83, 69]⟩ : ByteArray)] from rfl) (Reps.none _ _)))))))); intro v315 w35 ho36 hb hg_ hnew_; clear hg_ hnew_; (first | rw [← Ny314.out] at ho36 | (simp only [Int.reduceToNat] at ho36; rw [← Ny314.out] at ho36)); have n0_ := Aside0.mk (Kd.R_elder' (by (with_reducible repeat (first | apply Kd.R_alloc | apply Kd.R_drewN | apply Kd.R_drew)); exact HO312.out) (Kd.R_base ho36) hb); have n1_ := Aside0.mk (Kd.R_lower (Kd.R_new' ho36 (Kd.R_lt (by (with_reducible repeat (first | apply Kd.R_alloc | apply Kd.R_drewN | apply Kd.R_drew)); exact HO312.out))) (below_size (by repeat (first | (with_reducible first | exact HB.out | apply below_alloc | apply pw_below_drewN | apply below_drew1) | exact HB.out)))); have n2_ := Aside0.mk (below_step (by repeat (first | (with_reducible first | exact HB.out | apply below_alloc | apply pw_below_drewN | apply below_drew1) | exact HB.out)) hb); clear HO312; clear HB; have HO312 := n0_; have HO316 := n1_; have HB := n2_; clear n0_ n1_ n2_; clear hb ho36; obtain ⟨Ao37, co37, eo37⟩ := Kd.R_slice HO316.out; subst eo37) | ((with_reducible refine gate_callee (f := 47) rfl ?_); refine goesL_ (some 17) rfl rfl Try.func47 (by kernel_rfl) rfl #[.string a0, .slice Ao37 y314.length co37] rfl (by (try simp only [List.map_toArray, List.map_cons, List.map_nil]); first | done | rfl | (simp only [List.length_drop, List.length_take]; rfl) | (simp only [ByteArray.size_extract, Nat.min_self]; done) | (simp only [ByteArray.size_extract, Nat.min_self]; rfl)) ?_; (with_reducible refine (correctorref15_in.calls k a0 _ _ y314 false _ ?side1 ?side2 A8.out).mono ?_); (case side1 => repeat (first | exact (Kd.R_reads' HO316.out).2.2 | (with_reducible refine Kd.C_alloc ?_ _) | (with_reducible refine Kd.C_drewN ?_ _) | (with_reducible refine Kd.C_drew ?_))); (case side2 => exact (Kd.R_reads' HO316.out).2.1); rintro e w' ⟨rfl, ⟨nd, rfl⟩⟩; refine ⟨_, rfl, ?_⟩) | ((with_reducible refine gate_callee (f := 48) rfl ?_); refine goesL_ (some 22) rfl rfl Try.func48 (by kernel_rfl) rfl #[.string a0] rfl (by (try simp only [List.map_toArray, List.map_cons, List.map_nil]); first | done | rfl | (simp only [List.length_drop, List.length_take]; rfl) | (simp only [ByteArray.size_extract, Nat.min_self]; done) | (simp only [ByteArray.size_extract, Nat.min_self]; rfl)) ?_; (with_reducible refine (correctorref15_float.calls k a0 false _ A23.out).mono ?_); rintro e w38 ⟨rfl, hb⟩; refine ⟨_, rfl, ?_⟩; have n0_ := Aside0.mk (Kd.R_below (by (with_reducible repeat (first | apply Kd.R_alloc | apply Kd.R_drewN | apply Kd.R_drew)); exact HO312.out) hb); have n1_ := Aside0.mk (Kd.R_below (by (with_reducible repeat (first | apply Kd.R_alloc | apply Kd.R_drewN | apply Kd.R_drew)); exact HO316.out) hb); have n2_ := Aside0.mk (below_step (by repeat (first | (with_reducible first | exact HB.out | apply below_alloc | apply pw_below_drewN | apply below_drew1) | exact HB.out)) hb); clear HO312; clear HO316; clear HB; have HO312 := n0_; have HO316 := n1_; have HB := n2_; clear n0_ n1_ n2_; (try clear hb); (try clear hb2); (try clear hk); (try clear hi)))
          go_ret
          exact ⟨by first | rfl | (simp [errW_none, errW_some] <;> rfl) | (simp [*, errW_none, errW_some] <;> rfl), by repeat (first | (with_reducible first | exact HB.out | apply below_alloc | apply pw_below_drewN | apply below_drew1) | exact HB.out)⟩

/-! ### correctorref15_Tagged: function 32 -/
def correctorref15_Tagged.j0 : Nat → Bool → Option (Int)
  | 0, _ => none
  | k + 1, x29 => if x29 = true then (some 4) else (some 5)
def correctorref15_Tagged.f (k : Nat) (a0 : ByteArray) (a1 : ByteArray) (a2 : Bool) : Option (Int) := (correctorref15_Kind.f k a1).bind fun t332 => (if a0.toList = ([] : List UInt8) then (if a2 = true then (some t332) else (if 5 = t332 then (some 5) else (some 5))) else (if a0.toList = ([33, 33, 105, 110, 116] : List UInt8) then (if 3 = t332 then (some 3) else (some 5)) else (if a0.toList = ([33, 33, 98, 111, 111, 108] : List UInt8) then (if 2 = t332 then (some 2) else (some 5)) else (if a0.toList = ([33, 33, 110, 117, 108, 108] : List UInt8) then (if 1 = t332 then (some 1) else (some 5)) else (if a0.toList = ([33, 33, 102, 108, 111, 97, 116] : List UInt8) then (if t332 = 3 then (correctorref15_Tagged.j0 k true) else (correctorref15_Tagged.j0 k (t332 == 4))) else (if 5 = t332 then (some 5) else (some 5)))))))
theorem correctorref15_Tagged.mono_l : ∀ k, (∀ y0, LeO (correctorref15_Tagged.j0 k y0) (correctorref15_Tagged.j0 (k + 1) y0))
  | 0 => fun _ r h => by simp [correctorref15_Tagged.j0] at h
  | k + 1 => by
    have ih0 := correctorref15_Tagged.mono_l k
    · intro y0
      unfold correctorref15_Tagged.j0
      repeat' first
      | (with_reducible exact ih0 _)
      | (with_reducible exact correctorref15_Kind.mono _ _)
      | (with_reducible exact LeO.refl _)
      | (with_reducible exact LeO.none _)
      | (with_reducible refine LeO.ite ?_ ?_)
      | (with_reducible refine LeO.bind ?_ (fun _ => ?_))
      | exact ih0 _
      | exact correctorref15_Kind.mono _ _
      | exact LeO.none _
      | refine LeO.ite ?_ ?_
      | refine LeO.bind ?_ (fun _ => ?_)
theorem correctorref15_Tagged.mono : ∀ a0 a1 a2 k, LeO (correctorref15_Tagged.f k a0 a1 a2) (correctorref15_Tagged.f (k + 1) a0 a1 a2) := by
  intro a0 a1 a2 k
  have ih0 := correctorref15_Tagged.mono_l k
  unfold correctorref15_Tagged.f
  repeat' first
      | (with_reducible exact ih0 _)
      | (with_reducible exact correctorref15_Kind.mono _ _)
      | (with_reducible exact LeO.refl _)
      | (with_reducible exact LeO.none _)
      | (with_reducible refine LeO.ite ?_ ?_)
      | (with_reducible refine LeO.bind ?_ (fun _ => ?_))
      | exact ih0 _
      | exact correctorref15_Kind.mono _ _
      | exact LeO.none _
      | refine LeO.ite ?_ ?_
      | refine LeO.bind ?_ (fun _ => ?_)
set_option maxHeartbeats 8000000 in
set_option maxRecDepth 100000 in
theorem correctorref15_Tagged.calls (k : Nat) (a0 : ByteArray) (a1 : ByteArray) (a2 : Bool) (r : Int) (w : World) (h : correctorref15_Tagged.f k a0 a1 a2 = some r) :
    Calls Try.prog 32 #[.string a0, .string a1, .bool a2] w fun e w' => e = .returned (.int .i64 r) ∧ Below w.heap.size w w' := by
  have HB := Aside0.mk (Below.refl w.heap.size w)
  have H : ((correctorref15_Kind.f k a1).bind fun t332 => (if a0.toList = ([] : List UInt8) then (if a2 = true then (some t332) else (if 5 = t332 then (some 5) else (some 5))) else (if a0.toList = ([33, 33, 105, 110, 116] : List UInt8) then (if 3 = t332 then (some 3) else (some 5)) else (if a0.toList = ([33, 33, 98, 111, 111, 108] : List UInt8) then (if 2 = t332 then (some 2) else (some 5)) else (if a0.toList = ([33, 33, 110, 117, 108, 108] : List UInt8) then (if 1 = t332 then (some 1) else (some 5)) else (if a0.toList = ([33, 33, 102, 108, 111, 97, 116] : List UInt8) then (if t332 = 3 then (correctorref15_Tagged.j0 k true) else (correctorref15_Tagged.j0 k (t332 == 4))) else (if 5 = t332 then (some 5) else (some 5)))))))) = some r := h
  clear h
  replace H := Option.bind_eq_some_iff.mp H
  obtain ⟨t332, A40, H⟩ := H
  replace H : (if a0.toList = ([] : List UInt8) then (if a2 = true then (some t332) else (if 5 = t332 then (some 5) else (some 5))) else (if a0.toList = ([33, 33, 105, 110, 116] : List UInt8) then (if 3 = t332 then (some 3) else (some 5)) else (if a0.toList = ([33, 33, 98, 111, 111, 108] : List UInt8) then (if 2 = t332 then (some 2) else (some 5)) else (if a0.toList = ([33, 33, 110, 117, 108, 108] : List UInt8) then (if 1 = t332 then (some 1) else (some 5)) else (if a0.toList = ([33, 33, 102, 108, 111, 97, 116] : List UInt8) then (if t332 = 3 then (correctorref15_Tagged.j0 k true) else (correctorref15_Tagged.j0 k (t332 == 4))) else (if 5 = t332 then (some 5) else (some 5))))))) = some r := H
  have A4 := Aside0.mk A40
  clear A40
  by_cases c5 : a0.toList = ([] : List UInt8)
  · rw [if_pos c5] at H
    have c5b0 : (a0.toList == ([] : List UInt8)) = true := beq_iff_eq.mpr c5
    have c5b1 : (a0.toList != ([] : List UInt8)) = false := bne_eq_false_iff_eq.mpr c5
    (try (have c5b2 : a0.toList.isEmpty = true := by simpa using c5))
    clear c5
    by_cases c6 : a2 = true
    · subst c6
      have H1 : (some t332) = some r := by rw [if_pos rfl] at H; exact H
      clear H
      have H := H1
      clear H1
      obtain rfl := Option.some.inj H
      go_enter Try.func32, Try.ntmps32
      go_wp2_with (first | ((with_reducible refine gate_callee (f := 30) rfl ?_); refine goesL_ (some 10) rfl rfl Try.func30 (by kernel_rfl) rfl #[.string a1] rfl (by (try simp only [List.map_toArray, List.map_cons, List.map_nil]); first | done | rfl | (simp only [List.length_drop, List.length_take]; rfl) | (simp only [ByteArray.size_extract, Nat.min_self]; done) | (simp only [ByteArray.size_extract, Nat.min_self]; rfl)) ?_; (with_reducible refine (correctorref15_Kind.calls k a1 t332 _ A4.out).mono ?_); rintro e w7 ⟨rfl, hb⟩; refine ⟨_, rfl, ?_⟩; have n0_ := Aside0.mk (below_step (by repeat (first | (with_reducible first | exact HB.out | apply below_alloc | apply pw_below_drewN | apply below_drew1) | exact HB.out)) hb); clear HB; have HB := n0_; clear n0_; (try clear hb); (try clear hb2); (try clear hk); (try clear hi)))
      go_ret
      exact ⟨by first | rfl | (simp [errW_none, errW_some] <;> rfl) | (simp [*, errW_none, errW_some] <;> rfl), by repeat (first | (with_reducible first | exact HB.out | apply below_alloc | apply pw_below_drewN | apply below_drew1) | exact HB.out)⟩
    · replace c6 := Bool.eq_false_iff.mpr c6
      subst c6
      have H1 : (if 5 = t332 then (some 5) else (some 5)) = some r := by rw [if_neg (show ¬ (false = true) by decide)] at H; exact H
      clear H
      have H := H1
      clear H1
      by_cases c8 : 5 = t332
      · rw [if_pos c8] at H
        have c8b0 : (5 == t332) = true := beq_iff_eq.mpr c8
        have c8b1 : (5 != t332) = false := bne_eq_false_iff_eq.mpr c8
        clear c8
        obtain rfl := Option.some.inj H
        go_enter Try.func32, Try.ntmps32
        go_wp2_with (first | ((with_reducible refine gate_callee (f := 30) rfl ?_); refine goesL_ (some 10) rfl rfl Try.func30 (by kernel_rfl) rfl #[.string a1] rfl (by (try simp only [List.map_toArray, List.map_cons, List.map_nil]); first | done | rfl | (simp only [List.length_drop, List.length_take]; rfl) | (simp only [ByteArray.size_extract, Nat.min_self]; done) | (simp only [ByteArray.size_extract, Nat.min_self]; rfl)) ?_; (with_reducible refine (correctorref15_Kind.calls k a1 t332 _ A4.out).mono ?_); rintro e w9 ⟨rfl, hb⟩; refine ⟨_, rfl, ?_⟩; have n0_ := Aside0.mk (below_step (by repeat (first | (with_reducible first | exact HB.out | apply below_alloc | apply pw_below_drewN | apply below_drew1) | exact HB.out)) hb); clear HB; have HB := n0_; clear n0_; (try clear hb); (try clear hb2); (try clear hk); (try clear hi)))
        go_ret
        exact ⟨by first | rfl | (simp [errW_none, errW_some] <;> rfl) | (simp [*, errW_none, errW_some] <;> rfl), by repeat (first | (with_reducible first | exact HB.out | apply below_alloc | apply pw_below_drewN | apply below_drew1) | exact HB.out)⟩
      · rw [if_neg c8] at H
        have c8b0 : (5 == t332) = false := beq_eq_false_iff_ne.mpr c8
        have c8b1 : (5 != t332) = true := bne_iff_ne.mpr c8
        obtain rfl := Option.some.inj H
        go_enter Try.func32, Try.ntmps32
        go_wp2_with (first | ((with_reducible refine gate_callee (f := 30) rfl ?_); refine goesL_ (some 10) rfl rfl Try.func30 (by kernel_rfl) rfl #[.string a1] rfl (by (try simp only [List.map_toArray, List.map_cons, List.map_nil]); first | done | rfl | (simp only [List.length_drop, List.length_take]; rfl) | (simp only [ByteArray.size_extract, Nat.min_self]; done) | (simp only [ByteArray.size_extract, Nat.min_self]; rfl)) ?_; (with_reducible refine (correctorref15_Kind.calls k a1 t332 _ A4.out).mono ?_); rintro e w10 ⟨rfl, hb⟩; refine ⟨_, rfl, ?_⟩; have n0_ := Aside0.mk (below_step (by repeat (first | (with_reducible first | exact HB.out | apply below_alloc | apply pw_below_drewN | apply below_drew1) | exact HB.out)) hb); clear HB; have HB := n0_; clear n0_; (try clear hb); (try clear hb2); (try clear hk); (try clear hi)))
        go_ret
        exact ⟨by first | rfl | (simp [errW_none, errW_some] <;> rfl) | (simp [*, errW_none, errW_some] <;> rfl), by repeat (first | (with_reducible first | exact HB.out | apply below_alloc | apply pw_below_drewN | apply below_drew1) | exact HB.out)⟩
  · rw [if_neg c5] at H
    have c5b0 : (a0.toList == ([] : List UInt8)) = false := beq_eq_false_iff_ne.mpr c5
    have c5b1 : (a0.toList != ([] : List UInt8)) = true := bne_iff_ne.mpr c5
    (try (have c5b2 : a0.toList.isEmpty = false := by simpa using c5))
    by_cases c11 : a0.toList = ([33, 33, 105, 110, 116] : List UInt8)
    · rw [if_pos c11] at H
      have c11b0 : (a0.toList == ([33, 33, 105, 110, 116] : List UInt8)) = true := beq_iff_eq.mpr c11
      have c11b1 : (a0.toList != ([33, 33, 105, 110, 116] : List UInt8)) = false := bne_eq_false_iff_eq.mpr c11
      clear c11
      by_cases c12 : 3 = t332
      · rw [if_pos c12] at H
        have c12b0 : (3 == t332) = true := beq_iff_eq.mpr c12
        have c12b1 : (3 != t332) = false := bne_eq_false_iff_eq.mpr c12
        clear c12
        obtain rfl := Option.some.inj H
        go_enter Try.func32, Try.ntmps32
        go_wp2_with (first | ((with_reducible refine gate_callee (f := 30) rfl ?_); refine goesL_ (some 10) rfl rfl Try.func30 (by kernel_rfl) rfl #[.string a1] rfl (by (try simp only [List.map_toArray, List.map_cons, List.map_nil]); first | done | rfl | (simp only [List.length_drop, List.length_take]; rfl) | (simp only [ByteArray.size_extract, Nat.min_self]; done) | (simp only [ByteArray.size_extract, Nat.min_self]; rfl)) ?_; (with_reducible refine (correctorref15_Kind.calls k a1 t332 _ A4.out).mono ?_); rintro e w13 ⟨rfl, hb⟩; refine ⟨_, rfl, ?_⟩; have n0_ := Aside0.mk (below_step (by repeat (first | (with_reducible first | exact HB.out | apply below_alloc | apply pw_below_drewN | apply below_drew1) | exact HB.out)) hb); clear HB; have HB := n0_; clear n0_; (try clear hb); (try clear hb2); (try clear hk); (try clear hi)))
        go_ret
        exact ⟨by first | rfl | (simp [errW_none, errW_some] <;> rfl) | (simp [*, errW_none, errW_some] <;> rfl), by repeat (first | (with_reducible first | exact HB.out | apply below_alloc | apply pw_below_drewN | apply below_drew1) | exact HB.out)⟩
      · rw [if_neg c12] at H
        have c12b0 : (3 == t332) = false := beq_eq_false_iff_ne.mpr c12
        have c12b1 : (3 != t332) = true := bne_iff_ne.mpr c12
        obtain rfl := Option.some.inj H
        go_enter Try.func32, Try.ntmps32
        go_wp2_with (first | ((with_reducible refine gate_callee (f := 30) rfl ?_); refine goesL_ (some 10) rfl rfl Try.func30 (by kernel_rfl) rfl #[.string a1] rfl (by (try simp only [List.map_toArray, List.map_cons, List.map_nil]); first | done | rfl | (simp only [List.length_drop, List.length_take]; rfl) | (simp only [ByteArray.size_extract, Nat.min_self]; done) | (simp only [ByteArray.size_extract, Nat.min_self]; rfl)) ?_; (with_reducible refine (correctorref15_Kind.calls k a1 t332 _ A4.out).mono ?_); rintro e w14 ⟨rfl, hb⟩; refine ⟨_, rfl, ?_⟩; have n0_ := Aside0.mk (below_step (by repeat (first | (with_reducible first | exact HB.out | apply below_alloc | apply pw_below_drewN | apply below_drew1) | exact HB.out)) hb); clear HB; have HB := n0_; clear n0_; (try clear hb); (try clear hb2); (try clear hk); (try clear hi)))
        go_ret
        exact ⟨by first | rfl | (simp [errW_none, errW_some] <;> rfl) | (simp [*, errW_none, errW_some] <;> rfl), by repeat (first | (with_reducible first | exact HB.out | apply below_alloc | apply pw_below_drewN | apply below_drew1) | exact HB.out)⟩
    · rw [if_neg c11] at H
      have c11b0 : (a0.toList == ([33, 33, 105, 110, 116] : List UInt8)) = false := beq_eq_false_iff_ne.mpr c11
      have c11b1 : (a0.toList != ([33, 33, 105, 110, 116] : List UInt8)) = true := bne_iff_ne.mpr c11
      by_cases c15 : a0.toList = ([33, 33, 98, 111, 111, 108] : List UInt8)
      · rw [if_pos c15] at H
        have c15b0 : (a0.toList == ([33, 33, 98, 111, 111, 108] : List UInt8)) = true := beq_iff_eq.mpr c15
        have c15b1 : (a0.toList != ([33, 33, 98, 111, 111, 108] : List UInt8)) = false := bne_eq_false_iff_eq.mpr c15
        clear c15
        by_cases c16 : 2 = t332
        · rw [if_pos c16] at H
          have c16b0 : (2 == t332) = true := beq_iff_eq.mpr c16
          have c16b1 : (2 != t332) = false := bne_eq_false_iff_eq.mpr c16
          clear c16
          obtain rfl := Option.some.inj H
          go_enter Try.func32, Try.ntmps32
          go_wp2_with (first | ((with_reducible refine gate_callee (f := 30) rfl ?_); refine goesL_ (some 10) rfl rfl Try.func30 (by kernel_rfl) rfl #[.string a1] rfl (by (try simp only [List.map_toArray, List.map_cons, List.map_nil]); first | done | rfl | (simp only [List.length_drop, List.length_take]; rfl) | (simp only [ByteArray.size_extract, Nat.min_self]; done) | (simp only [ByteArray.size_extract, Nat.min_self]; rfl)) ?_; (with_reducible refine (correctorref15_Kind.calls k a1 t332 _ A4.out).mono ?_); rintro e w17 ⟨rfl, hb⟩; refine ⟨_, rfl, ?_⟩; have n0_ := Aside0.mk (below_step (by repeat (first | (with_reducible first | exact HB.out | apply below_alloc | apply pw_below_drewN | apply below_drew1) | exact HB.out)) hb); clear HB; have HB := n0_; clear n0_; (try clear hb); (try clear hb2); (try clear hk); (try clear hi)))
          go_ret
          exact ⟨by first | rfl | (simp [errW_none, errW_some] <;> rfl) | (simp [*, errW_none, errW_some] <;> rfl), by repeat (first | (with_reducible first | exact HB.out | apply below_alloc | apply pw_below_drewN | apply below_drew1) | exact HB.out)⟩
        · rw [if_neg c16] at H
          have c16b0 : (2 == t332) = false := beq_eq_false_iff_ne.mpr c16
          have c16b1 : (2 != t332) = true := bne_iff_ne.mpr c16
          obtain rfl := Option.some.inj H
          go_enter Try.func32, Try.ntmps32
          go_wp2_with (first | ((with_reducible refine gate_callee (f := 30) rfl ?_); refine goesL_ (some 10) rfl rfl Try.func30 (by kernel_rfl) rfl #[.string a1] rfl (by (try simp only [List.map_toArray, List.map_cons, List.map_nil]); first | done | rfl | (simp only [List.length_drop, List.length_take]; rfl) | (simp only [ByteArray.size_extract, Nat.min_self]; done) | (simp only [ByteArray.size_extract, Nat.min_self]; rfl)) ?_; (with_reducible refine (correctorref15_Kind.calls k a1 t332 _ A4.out).mono ?_); rintro e w18 ⟨rfl, hb⟩; refine ⟨_, rfl, ?_⟩; have n0_ := Aside0.mk (below_step (by repeat (first | (with_reducible first | exact HB.out | apply below_alloc | apply pw_below_drewN | apply below_drew1) | exact HB.out)) hb); clear HB; have HB := n0_; clear n0_; (try clear hb); (try clear hb2); (try clear hk); (try clear hi)))
          go_ret
          exact ⟨by first | rfl | (simp [errW_none, errW_some] <;> rfl) | (simp [*, errW_none, errW_some] <;> rfl), by repeat (first | (with_reducible first | exact HB.out | apply below_alloc | apply pw_below_drewN | apply below_drew1) | exact HB.out)⟩
      · rw [if_neg c15] at H
        have c15b0 : (a0.toList == ([33, 33, 98, 111, 111, 108] : List UInt8)) = false := beq_eq_false_iff_ne.mpr c15
        have c15b1 : (a0.toList != ([33, 33, 98, 111, 111, 108] : List UInt8)) = true := bne_iff_ne.mpr c15
        by_cases c19 : a0.toList = ([33, 33, 110, 117, 108, 108] : List UInt8)
        · rw [if_pos c19] at H
          have c19b0 : (a0.toList == ([33, 33, 110, 117, 108, 108] : List UInt8)) = true := beq_iff_eq.mpr c19
          have c19b1 : (a0.toList != ([33, 33, 110, 117, 108, 108] : List UInt8)) = false := bne_eq_false_iff_eq.mpr c19
          clear c19
          by_cases c20 : 1 = t332
          · rw [if_pos c20] at H
            have c20b0 : (1 == t332) = true := beq_iff_eq.mpr c20
            have c20b1 : (1 != t332) = false := bne_eq_false_iff_eq.mpr c20
            clear c20
            obtain rfl := Option.some.inj H
            go_enter Try.func32, Try.ntmps32
            go_wp2_with (first | ((with_reducible refine gate_callee (f := 30) rfl ?_); refine goesL_ (some 10) rfl rfl Try.func30 (by kernel_rfl) rfl #[.string a1] rfl (by (try simp only [List.map_toArray, List.map_cons, List.map_nil]); first | done | rfl | (simp only [List.length_drop, List.length_take]; rfl) | (simp only [ByteArray.size_extract, Nat.min_self]; done) | (simp only [ByteArray.size_extract, Nat.min_self]; rfl)) ?_; (with_reducible refine (correctorref15_Kind.calls k a1 t332 _ A4.out).mono ?_); rintro e w21 ⟨rfl, hb⟩; refine ⟨_, rfl, ?_⟩; have n0_ := Aside0.mk (below_step (by repeat (first | (with_reducible first | exact HB.out | apply below_alloc | apply pw_below_drewN | apply below_drew1) | exact HB.out)) hb); clear HB; have HB := n0_; clear n0_; (try clear hb); (try clear hb2); (try clear hk); (try clear hi)))
            go_ret
            exact ⟨by first | rfl | (simp [errW_none, errW_some] <;> rfl) | (simp [*, errW_none, errW_some] <;> rfl), by repeat (first | (with_reducible first | exact HB.out | apply below_alloc | apply pw_below_drewN | apply below_drew1) | exact HB.out)⟩
          · rw [if_neg c20] at H
            have c20b0 : (1 == t332) = false := beq_eq_false_iff_ne.mpr c20
            have c20b1 : (1 != t332) = true := bne_iff_ne.mpr c20
            obtain rfl := Option.some.inj H
            go_enter Try.func32, Try.ntmps32
            go_wp2_with (first | ((with_reducible refine gate_callee (f := 30) rfl ?_); refine goesL_ (some 10) rfl rfl Try.func30 (by kernel_rfl) rfl #[.string a1] rfl (by (try simp only [List.map_toArray, List.map_cons, List.map_nil]); first | done | rfl | (simp only [List.length_drop, List.length_take]; rfl) | (simp only [ByteArray.size_extract, Nat.min_self]; done) | (simp only [ByteArray.size_extract, Nat.min_self]; rfl)) ?_; (with_reducible refine (correctorref15_Kind.calls k a1 t332 _ A4.out).mono ?_); rintro e w22 ⟨rfl, hb⟩; refine ⟨_, rfl, ?_⟩; have n0_ := Aside0.mk (below_step (by repeat (first | (with_reducible first | exact HB.out | apply below_alloc | apply pw_below_drewN | apply below_drew1) | exact HB.out)) hb); clear HB; have HB := n0_; clear n0_; (try clear hb); (try clear hb2); (try clear hk); (try clear hi)))
            go_ret
            exact ⟨by first | rfl | (simp [errW_none, errW_some] <;> rfl) | (simp [*, errW_none, errW_some] <;> rfl), by repeat (first | (with_reducible first | exact HB.out | apply below_alloc | apply pw_below_drewN | apply below_drew1) | exact HB.out)⟩
        · rw [if_neg c19] at H
          have c19b0 : (a0.toList == ([33, 33, 110, 117, 108, 108] : List UInt8)) = false := beq_eq_false_iff_ne.mpr c19
          have c19b1 : (a0.toList != ([33, 33, 110, 117, 108, 108] : List UInt8)) = true := bne_iff_ne.mpr c19
          by_cases c23 : a0.toList = ([33, 33, 102, 108, 111, 97, 116] : List UInt8)
          · rw [if_pos c23] at H
            have c23b0 : (a0.toList == ([33, 33, 102, 108, 111, 97, 116] : List UInt8)) = true := beq_iff_eq.mpr c23
            have c23b1 : (a0.toList != ([33, 33, 102, 108, 111, 97, 116] : List UInt8)) = false := bne_eq_false_iff_eq.mpr c23
            clear c23
            have HC24 := Aside0.mk H
            clear H
            go_enter Try.func32, Try.ntmps32
            go_upto_region 14 with (first | ((with_reducible refine gate_callee (f := 30) rfl ?_); refine goesL_ (some 10) rfl rfl Try.func30 (by kernel_rfl) rfl #[.string a1] rfl (by (try simp only [List.map_toArray, List.map_cons, List.map_nil]); first | done | rfl | (simp only [List.length_drop, List.length_take]; rfl) | (simp only [ByteArray.size_extract, Nat.min_self]; done) | (simp only [ByteArray.size_extract, Nat.min_self]; rfl)) ?_; (with_reducible refine (correctorref15_Kind.calls k a1 t332 _ A4.out).mono ?_); rintro e w25 ⟨rfl, hb⟩; refine ⟨_, rfl, ?_⟩; have n0_ := Aside0.mk (below_step (by repeat (first | (with_reducible first | exact HB.out | apply below_alloc | apply pw_below_drewN | apply below_drew1) | exact HB.out)) hb); clear HB; have HB := n0_; clear n0_; (try clear hb); (try clear hb2); (try clear hk); (try clear hi)))
            (try simp only [Act.put, List.setIfInBounds_toArray, List.set_cons_zero, List.set_cons_succ])
            go_cut [29] (fun v29 wc => ∃ (kq : Nat) (x29_23 : Bool), v29 = .bool x29_23 ∧ Aside0 (correctorref15_Tagged.j0 kq x29_23 = some r) ∧ Aside0 (kq ≤ k) ∧ Aside0 (Below w.heap.size w wc))
            case first =>
              have H := HC24.out
              clear HC24
              by_cases c26 : t332 = 3
              · rw [if_pos c26] at H
                have c26b0 : (t332 == 3) = true := beq_iff_eq.mpr c26
                have c26b1 : (t332 != 3) = false := bne_eq_false_iff_eq.mpr c26
                clear c26
                (first | rw [c26b0] | (simp only [i64_w, i32_w]; rw [c26b0]) | skip)
                have H' := Aside0.mk H
                clear H
                go_wp2
                go_meet
                case rel => exact ⟨_, (true), (by first | rfl | (simp; done) | (simp [*]; done)), H', ⟨by first | omega | exact Nat.le_refl _⟩, ⟨by repeat (first | (with_reducible first | exact HB.out | apply below_alloc | apply pw_below_drewN | apply below_drew1) | exact HB.out)⟩⟩
              · rw [if_neg c26] at H
                have c26b0 : (t332 == 3) = false := beq_eq_false_iff_ne.mpr c26
                have c26b1 : (t332 != 3) = true := bne_iff_ne.mpr c26
                (first | rw [c26b0] | (simp only [i64_w, i32_w]; rw [c26b0]) | skip)
                have H' := Aside0.mk H
                clear H
                go_wp2
                go_meet
                case rel => exact ⟨_, ((t332 == 4)), (by first | rfl | (simp; done) | (simp [*]; done)), H', ⟨by first | omega | exact Nat.le_refl _⟩, ⟨by repeat (first | (with_reducible first | exact HB.out | apply below_alloc | apply pw_below_drewN | apply below_drew1) | exact HB.out)⟩⟩
            case rest =>
              clear HC24
              try clear c1
              try clear c2
              try clear p2
              try clear c3
              try clear c5
              try clear c5b0
              try clear c5b1
              try clear c5b2
              try clear c6
              try clear c8
              try clear c8b0
              try clear c8b1
              try clear c11
              try clear c11b0
              try clear c11b1
              try clear c12
              try clear c12b0
              try clear c12b1
              try clear c15
              try clear c15b0
              try clear c15b1
              try clear c16
              try clear c16b0
              try clear c16b1
              try clear c19
              try clear c19b0
              try clear c19b1
              try clear c20
              try clear c20b0
              try clear c20b1
              try clear c23
              try clear c23b0
              try clear c23b1
              try clear c26
              try clear c26b0
              try clear c26b1
              obtain ⟨kq, x29_23, rfl, HA, HJ23, HB⟩ := hcut
              cases kq with
              | zero => exact absurd HA.out (by simp [correctorref15_Tagged.j0])
              | succ kj23 =>
                have H := HA.out
                clear HA
                simp only [correctorref15_Tagged.j0] at H
                by_cases c27 : x29_23 = true
                · subst c27
                  have H1 : (some 4) = some r := by rw [if_pos rfl] at H; exact H
                  clear H
                  have H := H1
                  clear H1
                  obtain rfl := Option.some.inj H
                  go_wp2
                  go_ret
                  exact ⟨by first | rfl | (simp [errW_none, errW_some] <;> rfl) | (simp [*, errW_none, errW_some] <;> rfl), by repeat (first | (with_reducible first | exact HB.out | apply below_alloc | apply pw_below_drewN | apply below_drew1) | exact HB.out)⟩
                · replace c27 := Bool.eq_false_iff.mpr c27
                  subst c27
                  have H1 : (some 5) = some r := by rw [if_neg (show ¬ (false = true) by decide)] at H; exact H
                  clear H
                  have H := H1
                  clear H1
                  obtain rfl := Option.some.inj H
                  go_wp2
                  go_ret
                  exact ⟨by first | rfl | (simp [errW_none, errW_some] <;> rfl) | (simp [*, errW_none, errW_some] <;> rfl), by repeat (first | (with_reducible first | exact HB.out | apply below_alloc | apply pw_below_drewN | apply below_drew1) | exact HB.out)⟩
          · rw [if_neg c23] at H
            have c23b0 : (a0.toList == ([33, 33, 102, 108, 111, 97, 116] : List UInt8)) = false := beq_eq_false_iff_ne.mpr c23
            have c23b1 : (a0.toList != ([33, 33, 102, 108, 111, 97, 116] : List UInt8)) = true := bne_iff_ne.mpr c23
            by_cases c28 : 5 = t332
            · rw [if_pos c28] at H
              have c28b0 : (5 == t332) = true := beq_iff_eq.mpr c28
              have c28b1 : (5 != t332) = false := bne_eq_false_iff_eq.mpr c28
              clear c28
              obtain rfl := Option.some.inj H
              go_enter Try.func32, Try.ntmps32
              go_wp2_with (first | ((with_reducible refine gate_callee (f := 30) rfl ?_); refine goesL_ (some 10) rfl rfl Try.func30 (by kernel_rfl) rfl #[.string a1] rfl (by (try simp only [List.map_toArray, List.map_cons, List.map_nil]); first | done | rfl | (simp only [List.length_drop, List.length_take]; rfl) | (simp only [ByteArray.size_extract, Nat.min_self]; done) | (simp only [ByteArray.size_extract, Nat.min_self]; rfl)) ?_; (with_reducible refine (correctorref15_Kind.calls k a1 t332 _ A4.out).mono ?_); rintro e w29 ⟨rfl, hb⟩; refine ⟨_, rfl, ?_⟩; have n0_ := Aside0.mk (below_step (by repeat (first | (with_reducible first | exact HB.out | apply below_alloc | apply pw_below_drewN | apply below_drew1) | exact HB.out)) hb); clear HB; have HB := n0_; clear n0_; (try clear hb); (try clear hb2); (try clear hk); (try clear hi)))
              go_ret
              exact ⟨by first | rfl | (simp [errW_none, errW_some] <;> rfl) | (simp [*, errW_none, errW_some] <;> rfl), by repeat (first | (with_reducible first | exact HB.out | apply below_alloc | apply pw_below_drewN | apply below_drew1) | exact HB.out)⟩
            · rw [if_neg c28] at H
              have c28b0 : (5 == t332) = false := beq_eq_false_iff_ne.mpr c28
              have c28b1 : (5 != t332) = true := bne_iff_ne.mpr c28
              obtain rfl := Option.some.inj H
              go_enter Try.func32, Try.ntmps32
              go_wp2_with (first | ((with_reducible refine gate_callee (f := 30) rfl ?_); refine goesL_ (some 10) rfl rfl Try.func30 (by kernel_rfl) rfl #[.string a1] rfl (by (try simp only [List.map_toArray, List.map_cons, List.map_nil]); first | done | rfl | (simp only [List.length_drop, List.length_take]; rfl) | (simp only [ByteArray.size_extract, Nat.min_self]; done) | (simp only [ByteArray.size_extract, Nat.min_self]; rfl)) ?_; (with_reducible refine (correctorref15_Kind.calls k a1 t332 _ A4.out).mono ?_); rintro e w30 ⟨rfl, hb⟩; refine ⟨_, rfl, ?_⟩; have n0_ := Aside0.mk (below_step (by repeat (first | (with_reducible first | exact HB.out | apply below_alloc | apply pw_below_drewN | apply below_drew1) | exact HB.out)) hb); clear HB; have HB := n0_; clear n0_; (try clear hb); (try clear hb2); (try clear hk); (try clear hi)))
              go_ret
              exact ⟨by first | rfl | (simp [errW_none, errW_some] <;> rfl) | (simp [*, errW_none, errW_some] <;> rfl), by repeat (first | (with_reducible first | exact HB.out | apply below_alloc | apply pw_below_drewN | apply below_drew1) | exact HB.out)⟩

end Go.Proofs.Ytpigemgiegbblaa.Q
