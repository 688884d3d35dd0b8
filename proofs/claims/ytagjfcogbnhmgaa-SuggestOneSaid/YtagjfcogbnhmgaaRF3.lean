/- The reference's scanner: heads, plain texts. -/
import Derived.Test.YtagjfcogbnhmgaaRF2
import Derived.Test.YtagjfcogbnhmgaaQcorrectorref1
namespace Go.Proofs.Ytagjfcogbnhmgaa.Rf
open Go.RowKit Go.Proofs.Ytagjfcogbnhmgaa.Q Go.Proofs.YtagjfcogbnhmgaaW.PrintWords Go.Proofs.YtagjfcogbnhmgaaW.PrintLast Go.Proofs.YtagjfcogbnhmgaaW.PrintMore Go.Proofs.Ytagjfcogbnhmgaa.Sc Go.Proofs.Ytagjfcogbnhmgaa.Pure
attribute [local go_sem] max2_int min2_int max_two min_two max_three min_three max_four min_four
set_option linter.unusedVariables false
set_option linter.unusedSimpArgs false
set_option maxHeartbeats 1000000
set_option maxRecDepth 100000

theorem ret_i64 {x y : Int} (h : x = y) : Ending.returned (.int .i64 x) = .returned (.int .i64 y) := by rw [h]
theorem head_calls (W : World) (g : Nat) (A0 : Option Addr) (c0 : Nat) (b : List Int) (at_ row op base : Int) (only : Bool) (text : Int) (V : Value) (hs : RQ W g A0 c0 b at_ row op base only text V) (h0 : 0 ≤ at_) (h1 : at_ < (b.length : Int)) :
    Calls Try.prog 29 #[.pointer (some ⟨g, 0, none⟩)] W fun e w' => e = .returned (.int .i64 (headR b op at_)) ∧ ∃ n, w' = W.drewN n := by
  have H := Aside0.mk hs
  have hc0 := hs.cell0
  have hc1 := hs.cell1
  have hc3 := hs.cell3
  have hl := hs.len
  clear hs
  obtain ⟨ad, ea, hx⟩ := Kd.at_int H.out.C (at_) h0 h1
  cases ea
  have q1 : (0 ≤ at_) = True := eq_true (by omega)
  have q2 : (at_ < (b.length : Int)) = True := eq_true (by omega)
  have B0 := Aside0.mk h0
  have B1 := Aside0.mk h1
  by_cases c0 : rd b at_ ≠ 124 ∧ rd b at_ ≠ 62
  · have hR : headR b op at_ = 0 := by unfold headR; rw [if_pos (.inl c0)]
    rw [hR]
    have f1 : (rd b at_ != 124) = true := bne_iff_ne.mpr c0.1
    have f2 : (rd b at_ != 62) = true := bne_iff_ne.mpr c0.2
    clear hR c0
    go_enter Try.func29, Try.ntmps29
    go_wp2
    go_quiet (fail)
    go_wp2
    go_ret
    exact ⟨rfl, by repeat (first | exact dr0 _ | refine dr1 ?_ _)⟩
  · have cc : rd b at_ = 124 ∨ (rd b at_ ≠ 124 ∧ rd b at_ = 62) := by omega
    have f1 : ((rd b at_ != 124) = false ∧ True) ∨ ((rd b at_ != 124) = true ∧ (rd b at_ != 62) = false) := by
      rcases cc with cc | ⟨c1, c2⟩
      · exact .inl ⟨bne_eq_false_iff_eq.mpr cc, trivial⟩
      · exact .inr ⟨bne_iff_ne.mpr c1, bne_eq_false_iff_eq.mpr c2⟩
    by_cases o1 : op > 0
    · have d1 : decide (op > 0) = true := decide_eq_true o1
      have hR : headR b op at_ = 0 := by unfold headR; rw [if_pos (.inr o1)]
      rw [hR]
      clear hR cc
      rcases f1 with ⟨f1, _⟩ | ⟨f1, f2⟩
      all_goals
        go_enter Try.func29, Try.ntmps29
        go_wp2
        go_quiet (fail)
        go_wp2
        go_ret
        exact ⟨rfl, by repeat (first | exact dr0 _ | refine dr1 ?_ _)⟩
    · have d1 : decide (op > 0) = false := decide_eq_false o1
      obtain ⟨J, hJ⟩ : ∃ J, J = headJ b at_ := ⟨_, rfl⟩
      have hR : headR b op at_ = if blanks b J < (b.length : Int) ∧ brk b (blanks b J) = 0 ∧ ¬ (rd b (blanks b J) = 35 ∧ blanks b J > J) then 0 else J - at_ := by rw [hJ]; unfold headR; rw [if_neg (fun h => h.elim c0 o1)]; rfl
      generalize headR b op at_ = R at *
      have HR := Aside0.mk hR
      have jj : (ba b (at_ + 1) = 43 ∧ J = at_ + 1 + 1 ∧ at_ + 1 < (b.length : Int)) ∨ (ba b (at_ + 1) ≠ 43 ∧ ba b (at_ + 1) = 45 ∧ J = at_ + 1 + 1 ∧ at_ + 1 < (b.length : Int)) ∨ (ba b (at_ + 1) ≠ 43 ∧ ba b (at_ + 1) ≠ 45 ∧ J = at_ + 1) := by
        have hz : ¬ at_ + 1 < (b.length : Int) → ba b (at_ + 1) = 0 := fun h => by unfold ba; rw [if_neg (fun h2 => h h2.2)]
        rw [hJ]
        unfold headJ
        by_cases a1 : ba b (at_ + 1) = 43
        · have a2 : at_ + 1 < (b.length : Int) := by rcases Int.lt_or_le (at_ + 1) (b.length : Int) with h | h; exact h; rw [hz (by omega)] at a1; omega
          exact .inl ⟨a1, by rw [if_pos (.inl a1)]; omega, a2⟩
        · by_cases a3 : ba b (at_ + 1) = 45
          · have a2 : at_ + 1 < (b.length : Int) := by rcases Int.lt_or_le (at_ + 1) (b.length : Int) with h | h; exact h; rw [hz (by omega)] at a3; omega
            exact .inr (.inl ⟨a1, a3, by rw [if_pos (.inr a3)]; omega, a2⟩)
          · exact .inr (.inr ⟨a1, a3, by rw [if_neg (fun h => h.elim a1 a3)]⟩)
      clear hJ hR cc c0
      have fin : ∀ (b1 b2 : Bool) (X : Int), True := fun _ _ _ => trivial
      clear fin
      rcases jj with ⟨k1, k3, k4⟩ | ⟨k1, k2, k3, k4⟩ | ⟨k1, k2, k3⟩
      · have g1 : (ba b (at_ + 1) == 43) = true := beq_iff_eq.mpr k1
        have HJ := Aside0.mk k3
        have jl : J ≤ (b.length : Int) := by omega
        have ja : at_ < J := by omega
        clear k3 k1
        try clear k4
        rcases f1 with ⟨f1, _⟩ | ⟨f1, f2⟩
        all_goals
          go_enter Try.func29, Try.ntmps29
          go_wp2
          go_quiet (fail)
          go_wp2_with (first | (go_at_call 17; (with_reducible refine (byteAt_calls _ g _ c0 b at_ row op base only text V (by first | exact H.out | exact H.out.drewN _ | exact (H.out.drewN _).drewN _) _).mono ?_); rintro e w1 ⟨rfl, n1, rfl⟩))
          go_loopg [5] ((b.length : Int) - J).toNat (fun kq v w' => ∃ x : Int, v = .int .i64 x ∧ Aside0 (J ≤ x ∧ x ≤ (b.length : Int) ∧ blanks b x = blanks b J ∧ kq = ((b.length : Int) - x).toNat) ∧ Aside0 (∃ n, w' = W.drewN n))
          case atStart => exact ⟨_, rfl, ⟨⟨by have := HJ.out; omega, by have := HJ.out; omega, by rw [HJ.out], by rw [HJ.out]⟩⟩, ⟨by repeat (first | exact dr0 _ | refine dr1 ?_ _)⟩⟩
          case round =>
            obtain ⟨x, rfl, HX, ⟨n, rfl⟩⟩ := hrel
            have hx0 := HX.out.1
            have hx1 := HX.out.2.1
            have xb0 : 0 ≤ x := by have := B0.out; omega
            have xb1 : x ≤ 16384 := by omega
            by_cases l1 : x < (b.length : Int)
            · have d9 : decide (x < (b.length : Int)) = true := decide_eq_true l1
              obtain ⟨ad9, ea9, hx9⟩ := Kd.at_int H.out.C (x) xb0 l1
              cases ea9
              have q19 : (0 ≤ x) = True := eq_true (by omega)
              have q29 : (x < (b.length : Int)) = True := eq_true (by omega)
              by_cases p : Sc.blank (rd b x) = true
              · have PX := Aside0.mk p
                have L1 := Aside0.mk l1
                go_wp2_with (first | (go_at_call 22; (with_reducible refine (rblank_calls _ _).mono ?_); rintro e w1 ⟨rfl, n1, rfl⟩))
                go_roundg ((b.length : Int) - (x + 1)).toNat
                case measure => have := HX.out.2.2.2; have := L1.out; omega
                case rel => exact ⟨x + 1, rfl, ⟨⟨by omega, by have := L1.out; omega, by rw [← HX.out.2.2.1]; exact (upto_go L1.out PX.out).symm, rfl⟩⟩, ⟨by repeat (first | exact dr0 _ | refine dr1 ?_ _)⟩⟩
              · replace p : Sc.blank (rd b x) = false := by simpa using p
                have PX := Aside0.mk p
                have hK : blanks b J = x := by rw [← HX.out.2.2.1]; exact upto_stop PX.out
                have hR := HR.out
                rw [hK] at hR
                clear hK
                clear HR
                have HR := Aside0.mk hR
                clear hR
                have L1 := Aside0.mk l1
                by_cases z1 : brk b x = 0
                · have y1 : (brk b x == 0) = true := beq_iff_eq.mpr z1
                  by_cases z2 : rd b x = 35
                  · have y2 : (rd b x == 35) = true := beq_iff_eq.mpr z2
                    by_cases z3 : x > J
                    · have y3 := Aside0.mk (decide_eq_true z3)
                      have y3 := y3.out
                      rw [HJ.out] at y3
                      have HV : Aside0 (R = J - at_) := ⟨by rw [HR.out, if_neg (fun h => h.2.2 ⟨z2, z3⟩)]⟩
                      clear z1 z2 z3
                      go_wp2_with (first | (go_at_call 22; (with_reducible refine (rblank_calls _ _).mono ?_); rintro e w1 ⟨rfl, n1, rfl⟩) | (go_at_call 20; (with_reducible refine (break_calls _ _ c0 b (by first | exact H.out.C | exact Kd.C_drewN H.out.C _ | exact Kd.C_drewN (Kd.C_drewN H.out.C _) _) H.out.cap H.out.len _ (by omega) (by omega)).mono ?_); rintro e w1 ⟨rfl, n1, rfl⟩))
                      go_ret
                      exact ⟨ret_i64 (by have h1_ := HV.out; have h2_ := HJ.out; omega), by repeat (first | exact dr0 _ | refine dr1 ?_ _)⟩
                    · have y3 := Aside0.mk (decide_eq_false z3)
                      have y3 := y3.out
                      rw [HJ.out] at y3
                      have HV : Aside0 (R = 0) := ⟨by rw [HR.out, if_pos ⟨L1.out, z1, fun h => z3 h.2⟩]⟩
                      clear z1 z2 z3
                      go_wp2_with (first | (go_at_call 22; (with_reducible refine (rblank_calls _ _).mono ?_); rintro e w1 ⟨rfl, n1, rfl⟩) | (go_at_call 20; (with_reducible refine (break_calls _ _ c0 b (by first | exact H.out.C | exact Kd.C_drewN H.out.C _ | exact Kd.C_drewN (Kd.C_drewN H.out.C _) _) H.out.cap H.out.len _ (by omega) (by omega)).mono ?_); rintro e w1 ⟨rfl, n1, rfl⟩))
                      go_ret
                      exact ⟨ret_i64 (by have h1_ := HV.out; have h2_ := HJ.out; omega), by repeat (first | exact dr0 _ | refine dr1 ?_ _)⟩
                  · have y2 : (rd b x == 35) = false := beq_eq_false_iff_ne.mpr z2
                    have HV : Aside0 (R = 0) := ⟨by rw [HR.out, if_pos ⟨L1.out, z1, fun h => z2 h.1⟩]⟩
                    clear z1 z2
                    go_wp2_with (first | (go_at_call 22; (with_reducible refine (rblank_calls _ _).mono ?_); rintro e w1 ⟨rfl, n1, rfl⟩) | (go_at_call 20; (with_reducible refine (break_calls _ _ c0 b (by first | exact H.out.C | exact Kd.C_drewN H.out.C _ | exact Kd.C_drewN (Kd.C_drewN H.out.C _) _) H.out.cap H.out.len _ (by omega) (by omega)).mono ?_); rintro e w1 ⟨rfl, n1, rfl⟩))
                    go_ret
                    exact ⟨ret_i64 (by have h1_ := HV.out; have h2_ := HJ.out; omega), by repeat (first | exact dr0 _ | refine dr1 ?_ _)⟩
                · have y1 : (brk b x == 0) = false := beq_eq_false_iff_ne.mpr z1
                  have HV : Aside0 (R = J - at_) := ⟨by rw [HR.out, if_neg (fun h => z1 h.2.1)]⟩
                  clear z1
                  go_wp2_with (first | (go_at_call 22; (with_reducible refine (rblank_calls _ _).mono ?_); rintro e w1 ⟨rfl, n1, rfl⟩) | (go_at_call 20; (with_reducible refine (break_calls _ _ c0 b (by first | exact H.out.C | exact Kd.C_drewN H.out.C _ | exact Kd.C_drewN (Kd.C_drewN H.out.C _) _) H.out.cap H.out.len _ (by omega) (by omega)).mono ?_); rintro e w1 ⟨rfl, n1, rfl⟩))
                  go_ret
                  exact ⟨ret_i64 (by have h1_ := HV.out; have h2_ := HJ.out; omega), by repeat (first | exact dr0 _ | refine dr1 ?_ _)⟩
            · have d9 : decide (x < (b.length : Int)) = false := decide_eq_false l1
              have hK : blanks b J = x := by rw [← HX.out.2.2.1]; exact upto_end l1
              have HV : Aside0 (R = J - at_) := ⟨by rw [HR.out, hK, if_neg (fun h => l1 h.1)]⟩
              clear hK
              go_wp2
              go_ret
              exact ⟨ret_i64 (by have h1_ := HV.out; have h2_ := HJ.out; omega), by repeat (first | exact dr0 _ | refine dr1 ?_ _)⟩
      · have g1 : (ba b (at_ + 1) == 43) = false := beq_eq_false_iff_ne.mpr k1
        have g2 : (ba b (at_ + 1) == 45) = true := beq_iff_eq.mpr k2
        have HJ := Aside0.mk k3
        have jl : J ≤ (b.length : Int) := by omega
        have ja : at_ < J := by omega
        clear k3 k1 k2
        try clear k4
        rcases f1 with ⟨f1, _⟩ | ⟨f1, f2⟩
        all_goals
          go_enter Try.func29, Try.ntmps29
          go_wp2
          go_quiet (fail)
          go_wp2_with (first | (go_at_call 17; (with_reducible refine (byteAt_calls _ g _ c0 b at_ row op base only text V (by first | exact H.out | exact H.out.drewN _ | exact (H.out.drewN _).drewN _) _).mono ?_); rintro e w1 ⟨rfl, n1, rfl⟩))
          go_loopg [5] ((b.length : Int) - J).toNat (fun kq v w' => ∃ x : Int, v = .int .i64 x ∧ Aside0 (J ≤ x ∧ x ≤ (b.length : Int) ∧ blanks b x = blanks b J ∧ kq = ((b.length : Int) - x).toNat) ∧ Aside0 (∃ n, w' = W.drewN n))
          case atStart => exact ⟨_, rfl, ⟨⟨by have := HJ.out; omega, by have := HJ.out; omega, by rw [HJ.out], by rw [HJ.out]⟩⟩, ⟨by repeat (first | exact dr0 _ | refine dr1 ?_ _)⟩⟩
          case round =>
            obtain ⟨x, rfl, HX, ⟨n, rfl⟩⟩ := hrel
            have hx0 := HX.out.1
            have hx1 := HX.out.2.1
            have xb0 : 0 ≤ x := by have := B0.out; omega
            have xb1 : x ≤ 16384 := by omega
            by_cases l1 : x < (b.length : Int)
            · have d9 : decide (x < (b.length : Int)) = true := decide_eq_true l1
              obtain ⟨ad9, ea9, hx9⟩ := Kd.at_int H.out.C (x) xb0 l1
              cases ea9
              have q19 : (0 ≤ x) = True := eq_true (by omega)
              have q29 : (x < (b.length : Int)) = True := eq_true (by omega)
              by_cases p : Sc.blank (rd b x) = true
              · have PX := Aside0.mk p
                have L1 := Aside0.mk l1
                go_wp2_with (first | (go_at_call 22; (with_reducible refine (rblank_calls _ _).mono ?_); rintro e w1 ⟨rfl, n1, rfl⟩))
                go_roundg ((b.length : Int) - (x + 1)).toNat
                case measure => have := HX.out.2.2.2; have := L1.out; omega
                case rel => exact ⟨x + 1, rfl, ⟨⟨by omega, by have := L1.out; omega, by rw [← HX.out.2.2.1]; exact (upto_go L1.out PX.out).symm, rfl⟩⟩, ⟨by repeat (first | exact dr0 _ | refine dr1 ?_ _)⟩⟩
              · replace p : Sc.blank (rd b x) = false := by simpa using p
                have PX := Aside0.mk p
                have hK : blanks b J = x := by rw [← HX.out.2.2.1]; exact upto_stop PX.out
                have hR := HR.out
                rw [hK] at hR
                clear hK
                clear HR
                have HR := Aside0.mk hR
                clear hR
                have L1 := Aside0.mk l1
                by_cases z1 : brk b x = 0
                · have y1 : (brk b x == 0) = true := beq_iff_eq.mpr z1
                  by_cases z2 : rd b x = 35
                  · have y2 : (rd b x == 35) = true := beq_iff_eq.mpr z2
                    by_cases z3 : x > J
                    · have y3 := Aside0.mk (decide_eq_true z3)
                      have y3 := y3.out
                      rw [HJ.out] at y3
                      have HV : Aside0 (R = J - at_) := ⟨by rw [HR.out, if_neg (fun h => h.2.2 ⟨z2, z3⟩)]⟩
                      clear z1 z2 z3
                      go_wp2_with (first | (go_at_call 22; (with_reducible refine (rblank_calls _ _).mono ?_); rintro e w1 ⟨rfl, n1, rfl⟩) | (go_at_call 20; (with_reducible refine (break_calls _ _ c0 b (by first | exact H.out.C | exact Kd.C_drewN H.out.C _ | exact Kd.C_drewN (Kd.C_drewN H.out.C _) _) H.out.cap H.out.len _ (by omega) (by omega)).mono ?_); rintro e w1 ⟨rfl, n1, rfl⟩))
                      go_ret
                      exact ⟨ret_i64 (by have h1_ := HV.out; have h2_ := HJ.out; omega), by repeat (first | exact dr0 _ | refine dr1 ?_ _)⟩
                    · have y3 := Aside0.mk (decide_eq_false z3)
                      have y3 := y3.out
                      rw [HJ.out] at y3
                      have HV : Aside0 (R = 0) := ⟨by rw [HR.out, if_pos ⟨L1.out, z1, fun h => z3 h.2⟩]⟩
                      clear z1 z2 z3
                      go_wp2_with (first | (go_at_call 22; (with_reducible refine (rblank_calls _ _).mono ?_); rintro e w1 ⟨rfl, n1, rfl⟩) | (go_at_call 20; (with_reducible refine (break_calls _ _ c0 b (by first | exact H.out.C | exact Kd.C_drewN H.out.C _ | exact Kd.C_drewN (Kd.C_drewN H.out.C _) _) H.out.cap H.out.len _ (by omega) (by omega)).mono ?_); rintro e w1 ⟨rfl, n1, rfl⟩))
                      go_ret
                      exact ⟨ret_i64 (by have h1_ := HV.out; have h2_ := HJ.out; omega), by repeat (first | exact dr0 _ | refine dr1 ?_ _)⟩
                  · have y2 : (rd b x == 35) = false := beq_eq_false_iff_ne.mpr z2
                    have HV : Aside0 (R = 0) := ⟨by rw [HR.out, if_pos ⟨L1.out, z1, fun h => z2 h.1⟩]⟩
                    clear z1 z2
                    go_wp2_with (first | (go_at_call 22; (with_reducible refine (rblank_calls _ _).mono ?_); rintro e w1 ⟨rfl, n1, rfl⟩) | (go_at_call 20; (with_reducible refine (break_calls _ _ c0 b (by first | exact H.out.C | exact Kd.C_drewN H.out.C _ | exact Kd.C_drewN (Kd.C_drewN H.out.C _) _) H.out.cap H.out.len _ (by omega) (by omega)).mono ?_); rintro e w1 ⟨rfl, n1, rfl⟩))
                    go_ret
                    exact ⟨ret_i64 (by have h1_ := HV.out; have h2_ := HJ.out; omega), by repeat (first | exact dr0 _ | refine dr1 ?_ _)⟩
                · have y1 : (brk b x == 0) = false := beq_eq_false_iff_ne.mpr z1
                  have HV : Aside0 (R = J - at_) := ⟨by rw [HR.out, if_neg (fun h => z1 h.2.1)]⟩
                  clear z1
                  go_wp2_with (first | (go_at_call 22; (with_reducible refine (rblank_calls _ _).mono ?_); rintro e w1 ⟨rfl, n1, rfl⟩) | (go_at_call 20; (with_reducible refine (break_calls _ _ c0 b (by first | exact H.out.C | exact Kd.C_drewN H.out.C _ | exact Kd.C_drewN (Kd.C_drewN H.out.C _) _) H.out.cap H.out.len _ (by omega) (by omega)).mono ?_); rintro e w1 ⟨rfl, n1, rfl⟩))
                  go_ret
                  exact ⟨ret_i64 (by have h1_ := HV.out; have h2_ := HJ.out; omega), by repeat (first | exact dr0 _ | refine dr1 ?_ _)⟩
            · have d9 : decide (x < (b.length : Int)) = false := decide_eq_false l1
              have hK : blanks b J = x := by rw [← HX.out.2.2.1]; exact upto_end l1
              have HV : Aside0 (R = J - at_) := ⟨by rw [HR.out, hK, if_neg (fun h => l1 h.1)]⟩
              clear hK
              go_wp2
              go_ret
              exact ⟨ret_i64 (by have h1_ := HV.out; have h2_ := HJ.out; omega), by repeat (first | exact dr0 _ | refine dr1 ?_ _)⟩
      · have g1 : (ba b (at_ + 1) == 43) = false := beq_eq_false_iff_ne.mpr k1
        have g2 : (ba b (at_ + 1) == 45) = false := beq_eq_false_iff_ne.mpr k2
        have HJ := Aside0.mk k3
        have jl : J ≤ (b.length : Int) := by omega
        have ja : at_ < J := by omega
        clear k3 k1 k2
        try clear k4
        rcases f1 with ⟨f1, _⟩ | ⟨f1, f2⟩
        all_goals
          go_enter Try.func29, Try.ntmps29
          go_wp2
          go_quiet (fail)
          go_wp2_with (first | (go_at_call 17; (with_reducible refine (byteAt_calls _ g _ c0 b at_ row op base only text V (by first | exact H.out | exact H.out.drewN _ | exact (H.out.drewN _).drewN _) _).mono ?_); rintro e w1 ⟨rfl, n1, rfl⟩))
          go_loopg [5] ((b.length : Int) - J).toNat (fun kq v w' => ∃ x : Int, v = .int .i64 x ∧ Aside0 (J ≤ x ∧ x ≤ (b.length : Int) ∧ blanks b x = blanks b J ∧ kq = ((b.length : Int) - x).toNat) ∧ Aside0 (∃ n, w' = W.drewN n))
          case atStart => exact ⟨_, rfl, ⟨⟨by have := HJ.out; omega, by have := HJ.out; omega, by rw [HJ.out], by rw [HJ.out]⟩⟩, ⟨by repeat (first | exact dr0 _ | refine dr1 ?_ _)⟩⟩
          case round =>
            obtain ⟨x, rfl, HX, ⟨n, rfl⟩⟩ := hrel
            have hx0 := HX.out.1
            have hx1 := HX.out.2.1
            have xb0 : 0 ≤ x := by have := B0.out; omega
            have xb1 : x ≤ 16384 := by omega
            by_cases l1 : x < (b.length : Int)
            · have d9 : decide (x < (b.length : Int)) = true := decide_eq_true l1
              obtain ⟨ad9, ea9, hx9⟩ := Kd.at_int H.out.C (x) xb0 l1
              cases ea9
              have q19 : (0 ≤ x) = True := eq_true (by omega)
              have q29 : (x < (b.length : Int)) = True := eq_true (by omega)
              by_cases p : Sc.blank (rd b x) = true
              · have PX := Aside0.mk p
                have L1 := Aside0.mk l1
                go_wp2_with (first | (go_at_call 22; (with_reducible refine (rblank_calls _ _).mono ?_); rintro e w1 ⟨rfl, n1, rfl⟩))
                go_roundg ((b.length : Int) - (x + 1)).toNat
                case measure => have := HX.out.2.2.2; have := L1.out; omega
                case rel => exact ⟨x + 1, rfl, ⟨⟨by omega, by have := L1.out; omega, by rw [← HX.out.2.2.1]; exact (upto_go L1.out PX.out).symm, rfl⟩⟩, ⟨by repeat (first | exact dr0 _ | refine dr1 ?_ _)⟩⟩
              · replace p : Sc.blank (rd b x) = false := by simpa using p
                have PX := Aside0.mk p
                have hK : blanks b J = x := by rw [← HX.out.2.2.1]; exact upto_stop PX.out
                have hR := HR.out
                rw [hK] at hR
                clear hK
                clear HR
                have HR := Aside0.mk hR
                clear hR
                have L1 := Aside0.mk l1
                by_cases z1 : brk b x = 0
                · have y1 : (brk b x == 0) = true := beq_iff_eq.mpr z1
                  by_cases z2 : rd b x = 35
                  · have y2 : (rd b x == 35) = true := beq_iff_eq.mpr z2
                    by_cases z3 : x > J
                    · have y3 := Aside0.mk (decide_eq_true z3)
                      have y3 := y3.out
                      rw [HJ.out] at y3
                      have HV : Aside0 (R = J - at_) := ⟨by rw [HR.out, if_neg (fun h => h.2.2 ⟨z2, z3⟩)]⟩
                      clear z1 z2 z3
                      go_wp2_with (first | (go_at_call 22; (with_reducible refine (rblank_calls _ _).mono ?_); rintro e w1 ⟨rfl, n1, rfl⟩) | (go_at_call 20; (with_reducible refine (break_calls _ _ c0 b (by first | exact H.out.C | exact Kd.C_drewN H.out.C _ | exact Kd.C_drewN (Kd.C_drewN H.out.C _) _) H.out.cap H.out.len _ (by omega) (by omega)).mono ?_); rintro e w1 ⟨rfl, n1, rfl⟩))
                      go_ret
                      exact ⟨ret_i64 (by have h1_ := HV.out; have h2_ := HJ.out; omega), by repeat (first | exact dr0 _ | refine dr1 ?_ _)⟩
                    · have y3 := Aside0.mk (decide_eq_false z3)
                      have y3 := y3.out
                      rw [HJ.out] at y3
                      have HV : Aside0 (R = 0) := ⟨by rw [HR.out, if_pos ⟨L1.out, z1, fun h => z3 h.2⟩]⟩
                      clear z1 z2 z3
                      go_wp2_with (first | (go_at_call 22; (with_reducible refine (rblank_calls _ _).mono ?_); rintro e w1 ⟨rfl, n1, rfl⟩) | (go_at_call 20; (with_reducible refine (break_calls _ _ c0 b (by first | exact H.out.C | exact Kd.C_drewN H.out.C _ | exact Kd.C_drewN (Kd.C_drewN H.out.C _) _) H.out.cap H.out.len _ (by omega) (by omega)).mono ?_); rintro e w1 ⟨rfl, n1, rfl⟩))
                      go_ret
                      exact ⟨ret_i64 (by have h1_ := HV.out; have h2_ := HJ.out; omega), by repeat (first | exact dr0 _ | refine dr1 ?_ _)⟩
                  · have y2 : (rd b x == 35) = false := beq_eq_false_iff_ne.mpr z2
                    have HV : Aside0 (R = 0) := ⟨by rw [HR.out, if_pos ⟨L1.out, z1, fun h => z2 h.1⟩]⟩
                    clear z1 z2
                    go_wp2_with (first | (go_at_call 22; (with_reducible refine (rblank_calls _ _).mono ?_); rintro e w1 ⟨rfl, n1, rfl⟩) | (go_at_call 20; (with_reducible refine (break_calls _ _ c0 b (by first | exact H.out.C | exact Kd.C_drewN H.out.C _ | exact Kd.C_drewN (Kd.C_drewN H.out.C _) _) H.out.cap H.out.len _ (by omega) (by omega)).mono ?_); rintro e w1 ⟨rfl, n1, rfl⟩))
                    go_ret
                    exact ⟨ret_i64 (by have h1_ := HV.out; have h2_ := HJ.out; omega), by repeat (first | exact dr0 _ | refine dr1 ?_ _)⟩
                · have y1 : (brk b x == 0) = false := beq_eq_false_iff_ne.mpr z1
                  have HV : Aside0 (R = J - at_) := ⟨by rw [HR.out, if_neg (fun h => z1 h.2.1)]⟩
                  clear z1
                  go_wp2_with (first | (go_at_call 22; (with_reducible refine (rblank_calls _ _).mono ?_); rintro e w1 ⟨rfl, n1, rfl⟩) | (go_at_call 20; (with_reducible refine (break_calls _ _ c0 b (by first | exact H.out.C | exact Kd.C_drewN H.out.C _ | exact Kd.C_drewN (Kd.C_drewN H.out.C _) _) H.out.cap H.out.len _ (by omega) (by omega)).mono ?_); rintro e w1 ⟨rfl, n1, rfl⟩))
                  go_ret
                  exact ⟨ret_i64 (by have h1_ := HV.out; have h2_ := HJ.out; omega), by repeat (first | exact dr0 _ | refine dr1 ?_ _)⟩
            · have d9 : decide (x < (b.length : Int)) = false := decide_eq_false l1
              have hK : blanks b J = x := by rw [← HX.out.2.2.1]; exact upto_end l1
              have HV : Aside0 (R = J - at_) := ⟨by rw [HR.out, hK, if_neg (fun h => l1 h.1)]⟩
              clear hK
              go_wp2
              go_ret
              exact ⟨ret_i64 (by have h1_ := HV.out; have h2_ := HJ.out; omega), by repeat (first | exact dr0 _ | refine dr1 ?_ _)⟩

end Go.Proofs.Ytagjfcogbnhmgaa.Rf
