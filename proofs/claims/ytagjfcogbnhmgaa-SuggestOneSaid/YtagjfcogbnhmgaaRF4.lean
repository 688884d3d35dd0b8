/- The reference's scanner: plain texts. -/
import Derived.Test.YtagjfcogbnhmgaaRF3
import Derived.Test.YtagjfcogbnhmgaaQcorrectorref1
namespace Go.Proofs.Ytagjfcogbnhmgaa.Rf
open Go.RowKit Go.Proofs.Ytagjfcogbnhmgaa.Q Go.Proofs.YtagjfcogbnhmgaaW.PrintWords Go.Proofs.YtagjfcogbnhmgaaW.PrintLast Go.Proofs.YtagjfcogbnhmgaaW.PrintMore Go.Proofs.Ytagjfcogbnhmgaa.Sc Go.Proofs.Ytagjfcogbnhmgaa.Pure
attribute [local go_sem] max2_int min2_int max_two min_two max_three min_three max_four min_four
set_option linter.unusedVariables false
set_option linter.unusedSimpArgs false
set_option maxHeartbeats 1000000
set_option maxRecDepth 100000

theorem next_calls (W : World) (A2 : Option Addr) (c2 : Nat) (ys : List Int) (hC : Kd.C (Kd.int .u8) W A2 ys.length ys) (hc : ys.length ≤ c2) (hB : Byt ys) (hl : (ys.length : Int) ≤ 16384) :
    Calls Try.prog 24 #[.slice A2 ys.length c2] W fun e w' => e = .returned (.tuple #[.int .i32 (nx ys).1, .int .i64 (nx ys).2]) ∧ ∃ n, w' = W.drewN n :=
  (correctorref1_Next.calls 8 A2 c2 ys (nx ys).1 (nx ys).2 W hC hc (ref_next' 8 (Nat.le_refl _) ys hB (by omega))).mono fun _ _ h => ⟨h.1, h.2.out⟩
theorem plR_le (b : List Int) (op : Int) (hB : Byt b) : ∀ (k : Nat) (i : Int), 0 ≤ i → i ≤ (b.length : Int) → i ≤ plR b op k i ∧ plR b op k i ≤ (b.length : Int)
  | 0, i, _, h => ⟨Int.le_refl _, h⟩
  | k + 1, i, h0, h => by
    unfold plR
    split
    · rename_i h1
      split
      · exact ⟨Int.le_refl _, h⟩
      · have hf := nx_fine (b.drop i.toNat) (hB.drop _) (by rw [List.length_drop]; omega)
        rw [List.length_drop] at hf
        have := plR_le b op hB k (i + (nx (b.drop i.toNat)).2) (by omega) (by omega)
        omega
    · exact ⟨Int.le_refl _, h⟩

theorem plain_calls (W : World) (g : Nat) (A0 : Option Addr) (c0 : Nat) (b : List Int) (at_ row op base : Int) (only : Bool) (text : Int) (V : Value) (hs : RQ W g A0 c0 b at_ row op base only text V) (hB : Byt b) (h0 : 0 ≤ at_) (h1 : at_ < (b.length : Int)) :
    Calls Try.prog 30 #[.pointer (some ⟨g, 0, none⟩)] W fun e w' => e = .returned (.int .i64 (plainR b op at_)) ∧ ∃ n, w' = W.drewN n := by
  have H := Aside0.mk hs
  have hc0 := hs.cell0
  have hc1 := hs.cell1
  have hc3 := hs.cell3
  have hl := hs.len
  clear hs
  have HB := Aside0.mk hB
  clear hB
  obtain ⟨i0, hi0, _, hsz, _⟩ := info_parts (P := Try.prog) info5
  obtain ⟨A1, hcut1, hA1, hcap1⟩ := print_drop_of (P := Try.prog) (Value.int .u8) (0 : Int) 23 5 .i64 Try.underlying23 hi0 hsz A0 c0 b at_ (by omega) (by omega) H.out.cap
  have CC1 : Aside0 (∀ n, Kd.C (Kd.int .u8) (W.drewN n) A1 (b.drop (at_).toNat).length (b.drop (at_).toNat)) := ⟨fun n => Kd.C_of_reads (h1 := fun _ => rfl) (hA1 _ (Kd.reads_of_C (H.out.drewN n).C))⟩
  have hll1 : (b.drop (at_).toNat).length ≠ 0 := by rw [List.length_drop]; omega
  have hf1 := nx_fine (b.drop (at_).toNat) (HB.out.drop _) hll1
  have hlq1 : (b.drop (at_).toNat).length = b.length - (at_).toNat := List.length_drop
  have HY1 := Aside0.mk (And.intro (HB.out.drop (at_).toNat) (show ((b.drop (at_).toNat).length : Int) ≤ 16384 by omega))
  have r01 := hf1.1
  have r11 := hf1.2.1
  have r21 : (nx (b.drop (at_).toNat)).2 + at_ ≤ (b.length : Int) := by have := hf1.2.2.1; omega
  have r31 := hf1.2.2.2.1
  have r41 := hf1.2.2.2.2.1
  clear hf1 hlq1 hA1 hll1
  have hPR : plainR b op at_ = trimR b (at_ + 1) ((plR b op ((b.length : Int) - (at_ + (nx (b.drop at_.toNat)).2)).toNat (at_ + (nx (b.drop at_.toNat)).2)) - (at_ + 1)).toNat (plR b op ((b.length : Int) - (at_ + (nx (b.drop at_.toNat)).2)).toNat (at_ + (nx (b.drop at_.toNat)).2)) := rfl
  have hPL := plR_le b op HB.out ((b.length : Int) - (at_ + (nx (b.drop at_.toNat)).2)).toNat (at_ + (nx (b.drop at_.toNat)).2) (by omega) (by omega)
  have HC1 := Aside0.mk hcap1
  clear hcap1
  generalize hys1 : b.drop (at_).toNat = ys1 at *
  have HYS1 := Aside0.mk hys1
  clear hys1
  obtain ⟨P, hP⟩ : ∃ P, P = plR b op ((b.length : Int) - (at_ + (nx ys1).2)).toNat (at_ + (nx ys1).2) := ⟨_, rfl⟩
  rw [← hP] at hPR hPL
  have pl0 : at_ + 1 ≤ P := by omega
  have pl1 : P ≤ (b.length : Int) := hPL.2
  generalize plainR b op at_ = R at *
  have HR := Aside0.mk hPR
  have HP := Aside0.mk hP
  clear hPR hPL hP
  have q3 : (at_ ≤ (b.length : Int)) = True := eq_true (by omega)
  go_enter Try.func30, Try.ntmps30
  go_wp2
  go_quiet ((go_at_call 24; (with_reducible refine Calls.quiet_of (next_calls _ A1 _ _ (CC1.out _) HC1.out HY1.out.1 HY1.out.2))))
  go_upto_block 0 with (fail)
  go_cut [5] (fun v5 wc => v5 = .int .i64 P ∧ Aside0 (∃ n, wc = W.drewN n))
  case first =>
    go_wp2
    go_loopg [5] ((b.length : Int) - (at_ + (nx ys1).2)).toNat (fun kq v w' => ∃ x : Int, v = .int .i64 x ∧ Aside0 (at_ + 1 ≤ x ∧ x ≤ (b.length : Int) ∧ plR b op kq x = P ∧ (b.length : Int) - x ≤ (kq : Int)) ∧ Aside0 (∃ n, w' = W.drewN n))
    case atStart => exact ⟨_, rfl, ⟨⟨by omega, by omega, HP.out.symm, by omega⟩⟩, ⟨by repeat (first | exact dr0 _ | refine dr1 ?_ _)⟩⟩
    case round =>
      obtain ⟨x, rfl, HX, ⟨n, rfl⟩⟩ := hrel
      have hx0 := HX.out.1
      have hx1 := HX.out.2.1
      by_cases l1 : x < (b.length : Int)
      · have d1 : decide (x < (b.length : Int)) = true := decide_eq_true l1
        obtain ⟨A7, hcut7, hA7, hcap7⟩ := print_drop_of (P := Try.prog) (Value.int .u8) (0 : Int) 23 5 .i64 Try.underlying23 hi0 hsz A0 c0 b x (by omega) (by omega) H.out.cap
        have CC7 : Aside0 (∀ n, Kd.C (Kd.int .u8) (W.drewN n) A7 (b.drop (x).toNat).length (b.drop (x).toNat)) := ⟨fun n => Kd.C_of_reads (h1 := fun _ => rfl) (hA7 _ (Kd.reads_of_C (H.out.drewN n).C))⟩
        have hll7 : (b.drop (x).toNat).length ≠ 0 := by rw [List.length_drop]; omega
        have hf7 := nx_fine (b.drop (x).toNat) (HB.out.drop _) hll7
        have hlq7 : (b.drop (x).toNat).length = b.length - (x).toNat := List.length_drop
        have HY7 := Aside0.mk (And.intro (HB.out.drop (x).toNat) (show ((b.drop (x).toNat).length : Int) ≤ 16384 by omega))
        have r07 := hf7.1
        have r17 := hf7.2.1
        have r27 : (nx (b.drop (x).toNat)).2 + x ≤ (b.length : Int) := by have := hf7.2.2.1; omega
        have r37 := hf7.2.2.2.1
        have r47 := hf7.2.2.2.2.1
        clear hf7 hlq7 hA7 hll7
        obtain ⟨m, rfl⟩ : ∃ m, gk = m + 1 := ⟨gk - 1, by have := HX.out.2.2.2; omega⟩
        have HM := Aside0.mk HX.out.2.2.2
        have HS := HX.out.2.2.1
        simp only [plR] at HS
        rw [if_pos l1] at HS
        obtain ⟨ad8, ea8, hx8⟩ := Kd.at_int H.out.C (x) (by omega) l1
        cases ea8
        have q18 : (0 ≤ x) = True := eq_true (by omega)
        have q28 : (x < (b.length : Int)) = True := eq_true (by omega)
        obtain ⟨j, hj⟩ : ∃ j : Int, x - 1 = j := ⟨_, rfl⟩
        obtain ⟨ad9, ea9, hx9⟩ := Kd.at_int H.out.C (j) (by omega) (by omega)
        cases ea9
        have q19 : (0 ≤ j) = True := eq_true (by omega)
        have q29 : (j < (b.length : Int)) = True := eq_true (by omega)
        have HC7 := Aside0.mk hcap7
        clear hcap7
        generalize hys7 : b.drop (x).toNat = ys7 at *
        have HYS7 := Aside0.mk hys7
        clear hys7
        have hst : plStop b op x = (decide ((nx ys7).1 < 0) || (decide (0 < brk b x) || (colon b op x || ((rd b x == 35 && Sc.blank (rd b (x - 1))) || (decide (op > 0) && flow (rd b x)))))) := by unfold plStop; rw [HYS7.out]
        rw [hj] at hst
        have q4 : (x ≤ (b.length : Int)) = True := eq_true (by omega)
        clear HX
        by_cases s1 : (nx ys7).1 < 0
        · have t1 : decide ((nx ys7).1 < 0) = true := decide_eq_true s1
          simp only [t1, Bool.true_or, Bool.false_or, Bool.true_and, Bool.false_and, Bool.or_true, Bool.and_true, Bool.and_false] at hst
          rw [if_pos hst] at HS
          have HV := Aside0.mk HS
          clear HS
          go_wp2_with (first | (go_at_call 24; (with_reducible refine (next_calls _ A7 _ _ (CC7.out _) HC7.out HY7.out.1 HY7.out.2).mono ?_); rintro e w1 ⟨rfl, n1, rfl⟩) | (go_at_call 20; (with_reducible refine (break_calls _ _ c0 b (by first | exact H.out.C | exact Kd.C_drewN H.out.C _ | exact Kd.C_drewN (Kd.C_drewN H.out.C _) _) H.out.cap H.out.len _ (by omega) (by omega)).mono ?_); rintro e w1 ⟨rfl, n1, rfl⟩) | (go_at_call 26; (with_reducible refine (colon_calls _ g _ c0 b at_ row op base only text V (by first | exact H.out | exact H.out.drewN _ | exact (H.out.drewN _).drewN _) _ (by omega) (by omega)).mono ?_); rintro e w1 ⟨rfl, n1, rfl⟩) | (go_at_call 22; (with_reducible refine (rblank_calls _ _).mono ?_); rintro e w1 ⟨rfl, n1, rfl⟩) | (go_at_call 37; (with_reducible refine (rflow_calls _ _).mono ?_); rintro e w1 ⟨rfl, n1, rfl⟩))
          go_meet
          case rel => exact ⟨by rw [HV.out], ⟨by repeat (first | exact dr0 _ | refine dr1 ?_ _)⟩⟩
        · have t1 : decide ((nx ys7).1 < 0) = false := decide_eq_false s1
          by_cases s2 : brk b x > 0
          · have t2 : decide (brk b x > 0) = true := decide_eq_true s2
            have t2b : decide (0 < brk b x) = true := decide_eq_true s2
            simp only [t1, t2b, Bool.true_or, Bool.false_or, Bool.true_and, Bool.false_and, Bool.or_true, Bool.and_true, Bool.and_false] at hst
            rw [if_pos hst] at HS
            have HV := Aside0.mk HS
            clear HS
            go_wp2_with (first | (go_at_call 24; (with_reducible refine (next_calls _ A7 _ _ (CC7.out _) HC7.out HY7.out.1 HY7.out.2).mono ?_); rintro e w1 ⟨rfl, n1, rfl⟩) | (go_at_call 20; (with_reducible refine (break_calls _ _ c0 b (by first | exact H.out.C | exact Kd.C_drewN H.out.C _ | exact Kd.C_drewN (Kd.C_drewN H.out.C _) _) H.out.cap H.out.len _ (by omega) (by omega)).mono ?_); rintro e w1 ⟨rfl, n1, rfl⟩) | (go_at_call 26; (with_reducible refine (colon_calls _ g _ c0 b at_ row op base only text V (by first | exact H.out | exact H.out.drewN _ | exact (H.out.drewN _).drewN _) _ (by omega) (by omega)).mono ?_); rintro e w1 ⟨rfl, n1, rfl⟩) | (go_at_call 22; (with_reducible refine (rblank_calls _ _).mono ?_); rintro e w1 ⟨rfl, n1, rfl⟩) | (go_at_call 37; (with_reducible refine (rflow_calls _ _).mono ?_); rintro e w1 ⟨rfl, n1, rfl⟩))
            go_meet
            case rel => exact ⟨by rw [HV.out], ⟨by repeat (first | exact dr0 _ | refine dr1 ?_ _)⟩⟩
          · have t2 : decide (brk b x > 0) = false := decide_eq_false s2
            have t2b : decide (0 < brk b x) = false := decide_eq_false s2
            by_cases s3 : colon b op x = true
            · simp only [t1, t2b, s3, Bool.true_or, Bool.false_or, Bool.true_and, Bool.false_and, Bool.or_true, Bool.and_true, Bool.and_false] at hst
              rw [if_pos hst] at HS
              have HV := Aside0.mk HS
              clear HS
              go_wp2_with (first | (go_at_call 24; (with_reducible refine (next_calls _ A7 _ _ (CC7.out _) HC7.out HY7.out.1 HY7.out.2).mono ?_); rintro e w1 ⟨rfl, n1, rfl⟩) | (go_at_call 20; (with_reducible refine (break_calls _ _ c0 b (by first | exact H.out.C | exact Kd.C_drewN H.out.C _ | exact Kd.C_drewN (Kd.C_drewN H.out.C _) _) H.out.cap H.out.len _ (by omega) (by omega)).mono ?_); rintro e w1 ⟨rfl, n1, rfl⟩) | (go_at_call 26; (with_reducible refine (colon_calls _ g _ c0 b at_ row op base only text V (by first | exact H.out | exact H.out.drewN _ | exact (H.out.drewN _).drewN _) _ (by omega) (by omega)).mono ?_); rintro e w1 ⟨rfl, n1, rfl⟩) | (go_at_call 22; (with_reducible refine (rblank_calls _ _).mono ?_); rintro e w1 ⟨rfl, n1, rfl⟩) | (go_at_call 37; (with_reducible refine (rflow_calls _ _).mono ?_); rintro e w1 ⟨rfl, n1, rfl⟩))
              go_meet
              case rel => exact ⟨by rw [HV.out], ⟨by repeat (first | exact dr0 _ | refine dr1 ?_ _)⟩⟩
            · replace s3 : colon b op x = false := by simpa using s3
              by_cases s4 : rd b x = 35
              · have t4 : (rd b x == 35) = true := beq_iff_eq.mpr s4
                clear s4
                by_cases s7 : Sc.blank (rd b j) = true
                · simp only [t1, t2b, s3, t4, s7, Bool.true_or, Bool.false_or, Bool.true_and, Bool.false_and, Bool.or_true, Bool.and_true, Bool.and_false] at hst
                  rw [if_pos hst] at HS
                  have HV := Aside0.mk HS
                  clear HS
                  go_wp2_with (first | (go_at_call 24; (with_reducible refine (next_calls _ A7 _ _ (CC7.out _) HC7.out HY7.out.1 HY7.out.2).mono ?_); rintro e w1 ⟨rfl, n1, rfl⟩) | (go_at_call 20; (with_reducible refine (break_calls _ _ c0 b (by first | exact H.out.C | exact Kd.C_drewN H.out.C _ | exact Kd.C_drewN (Kd.C_drewN H.out.C _) _) H.out.cap H.out.len _ (by omega) (by omega)).mono ?_); rintro e w1 ⟨rfl, n1, rfl⟩) | (go_at_call 26; (with_reducible refine (colon_calls _ g _ c0 b at_ row op base only text V (by first | exact H.out | exact H.out.drewN _ | exact (H.out.drewN _).drewN _) _ (by omega) (by omega)).mono ?_); rintro e w1 ⟨rfl, n1, rfl⟩) | (go_at_call 22; (with_reducible refine (rblank_calls _ _).mono ?_); rintro e w1 ⟨rfl, n1, rfl⟩) | (go_at_call 37; (with_reducible refine (rflow_calls _ _).mono ?_); rintro e w1 ⟨rfl, n1, rfl⟩))
                  go_meet
                  case rel => exact ⟨by rw [HV.out], ⟨by repeat (first | exact dr0 _ | refine dr1 ?_ _)⟩⟩
                · replace s7 : Sc.blank (rd b j) = false := by simpa using s7
                  by_cases o1 : op > 0
                  · have s5 : decide (op > 0) = true := decide_eq_true o1
                    by_cases s6 : flow (rd b x) = true
                    · simp only [t1, t2b, s3, t4, s7, s5, s6, Bool.true_or, Bool.false_or, Bool.true_and, Bool.false_and, Bool.or_true, Bool.and_true, Bool.and_false] at hst
                      rw [if_pos hst] at HS
                      have HV := Aside0.mk HS
                      clear HS
                      go_wp2_with (first | (go_at_call 24; (with_reducible refine (next_calls _ A7 _ _ (CC7.out _) HC7.out HY7.out.1 HY7.out.2).mono ?_); rintro e w1 ⟨rfl, n1, rfl⟩) | (go_at_call 20; (with_reducible refine (break_calls _ _ c0 b (by first | exact H.out.C | exact Kd.C_drewN H.out.C _ | exact Kd.C_drewN (Kd.C_drewN H.out.C _) _) H.out.cap H.out.len _ (by omega) (by omega)).mono ?_); rintro e w1 ⟨rfl, n1, rfl⟩) | (go_at_call 26; (with_reducible refine (colon_calls _ g _ c0 b at_ row op base only text V (by first | exact H.out | exact H.out.drewN _ | exact (H.out.drewN _).drewN _) _ (by omega) (by omega)).mono ?_); rintro e w1 ⟨rfl, n1, rfl⟩) | (go_at_call 22; (with_reducible refine (rblank_calls _ _).mono ?_); rintro e w1 ⟨rfl, n1, rfl⟩) | (go_at_call 37; (with_reducible refine (rflow_calls _ _).mono ?_); rintro e w1 ⟨rfl, n1, rfl⟩))
                      go_meet
                      case rel => exact ⟨by rw [HV.out], ⟨by repeat (first | exact dr0 _ | refine dr1 ?_ _)⟩⟩
                    · replace s6 : flow (rd b x) = false := by simpa using s6
                      simp only [t1, t2b, s3, t4, s7, s5, s6, Bool.true_or, Bool.false_or, Bool.true_and, Bool.false_and, Bool.or_true, Bool.and_true, Bool.and_false] at hst
                      rw [if_neg (by rw [hst]; exact Bool.false_ne_true)] at HS
                      have HV := Aside0.mk HS
                      clear HS
                      go_wp2_with (first | (go_at_call 24; (with_reducible refine (next_calls _ A7 _ _ (CC7.out _) HC7.out HY7.out.1 HY7.out.2).mono ?_); rintro e w1 ⟨rfl, n1, rfl⟩) | (go_at_call 20; (with_reducible refine (break_calls _ _ c0 b (by first | exact H.out.C | exact Kd.C_drewN H.out.C _ | exact Kd.C_drewN (Kd.C_drewN H.out.C _) _) H.out.cap H.out.len _ (by omega) (by omega)).mono ?_); rintro e w1 ⟨rfl, n1, rfl⟩) | (go_at_call 26; (with_reducible refine (colon_calls _ g _ c0 b at_ row op base only text V (by first | exact H.out | exact H.out.drewN _ | exact (H.out.drewN _).drewN _) _ (by omega) (by omega)).mono ?_); rintro e w1 ⟨rfl, n1, rfl⟩) | (go_at_call 22; (with_reducible refine (rblank_calls _ _).mono ?_); rintro e w1 ⟨rfl, n1, rfl⟩) | (go_at_call 37; (with_reducible refine (rflow_calls _ _).mono ?_); rintro e w1 ⟨rfl, n1, rfl⟩))
                      go_roundg m
                      case measure => omega
                      case rel => exact ⟨_, rfl, ⟨⟨by omega, by omega, HV.out, by have := HM.out; omega⟩⟩, ⟨by repeat (first | exact dr0 _ | refine dr1 ?_ _)⟩⟩
                  · have s5 : decide (op > 0) = false := decide_eq_false o1
                    simp only [t1, t2b, s3, t4, s7, s5, Bool.true_or, Bool.false_or, Bool.true_and, Bool.false_and, Bool.or_true, Bool.and_true, Bool.and_false] at hst
                    rw [if_neg (by rw [hst]; exact Bool.false_ne_true)] at HS
                    have HV := Aside0.mk HS
                    clear HS
                    go_wp2_with (first | (go_at_call 24; (with_reducible refine (next_calls _ A7 _ _ (CC7.out _) HC7.out HY7.out.1 HY7.out.2).mono ?_); rintro e w1 ⟨rfl, n1, rfl⟩) | (go_at_call 20; (with_reducible refine (break_calls _ _ c0 b (by first | exact H.out.C | exact Kd.C_drewN H.out.C _ | exact Kd.C_drewN (Kd.C_drewN H.out.C _) _) H.out.cap H.out.len _ (by omega) (by omega)).mono ?_); rintro e w1 ⟨rfl, n1, rfl⟩) | (go_at_call 26; (with_reducible refine (colon_calls _ g _ c0 b at_ row op base only text V (by first | exact H.out | exact H.out.drewN _ | exact (H.out.drewN _).drewN _) _ (by omega) (by omega)).mono ?_); rintro e w1 ⟨rfl, n1, rfl⟩) | (go_at_call 22; (with_reducible refine (rblank_calls _ _).mono ?_); rintro e w1 ⟨rfl, n1, rfl⟩) | (go_at_call 37; (with_reducible refine (rflow_calls _ _).mono ?_); rintro e w1 ⟨rfl, n1, rfl⟩))
                    go_roundg m
                    case measure => omega
                    case rel => exact ⟨_, rfl, ⟨⟨by omega, by omega, HV.out, by have := HM.out; omega⟩⟩, ⟨by repeat (first | exact dr0 _ | refine dr1 ?_ _)⟩⟩
              · have t4 : (rd b x == 35) = false := beq_eq_false_iff_ne.mpr s4
                clear s4
                by_cases o1 : op > 0
                · have s5 : decide (op > 0) = true := decide_eq_true o1
                  by_cases s6 : flow (rd b x) = true
                  · simp only [t1, t2b, s3, t4, s5, s6, Bool.true_or, Bool.false_or, Bool.true_and, Bool.false_and, Bool.or_true, Bool.and_true, Bool.and_false] at hst
                    rw [if_pos hst] at HS
                    have HV := Aside0.mk HS
                    clear HS
                    go_wp2_with (first | (go_at_call 24; (with_reducible refine (next_calls _ A7 _ _ (CC7.out _) HC7.out HY7.out.1 HY7.out.2).mono ?_); rintro e w1 ⟨rfl, n1, rfl⟩) | (go_at_call 20; (with_reducible refine (break_calls _ _ c0 b (by first | exact H.out.C | exact Kd.C_drewN H.out.C _ | exact Kd.C_drewN (Kd.C_drewN H.out.C _) _) H.out.cap H.out.len _ (by omega) (by omega)).mono ?_); rintro e w1 ⟨rfl, n1, rfl⟩) | (go_at_call 26; (with_reducible refine (colon_calls _ g _ c0 b at_ row op base only text V (by first | exact H.out | exact H.out.drewN _ | exact (H.out.drewN _).drewN _) _ (by omega) (by omega)).mono ?_); rintro e w1 ⟨rfl, n1, rfl⟩) | (go_at_call 22; (with_reducible refine (rblank_calls _ _).mono ?_); rintro e w1 ⟨rfl, n1, rfl⟩) | (go_at_call 37; (with_reducible refine (rflow_calls _ _).mono ?_); rintro e w1 ⟨rfl, n1, rfl⟩))
                    go_meet
                    case rel => exact ⟨by rw [HV.out], ⟨by repeat (first | exact dr0 _ | refine dr1 ?_ _)⟩⟩
                  · replace s6 : flow (rd b x) = false := by simpa using s6
                    simp only [t1, t2b, s3, t4, s5, s6, Bool.true_or, Bool.false_or, Bool.true_and, Bool.false_and, Bool.or_true, Bool.and_true, Bool.and_false] at hst
                    rw [if_neg (by rw [hst]; exact Bool.false_ne_true)] at HS
                    have HV := Aside0.mk HS
                    clear HS
                    go_wp2_with (first | (go_at_call 24; (with_reducible refine (next_calls _ A7 _ _ (CC7.out _) HC7.out HY7.out.1 HY7.out.2).mono ?_); rintro e w1 ⟨rfl, n1, rfl⟩) | (go_at_call 20; (with_reducible refine (break_calls _ _ c0 b (by first | exact H.out.C | exact Kd.C_drewN H.out.C _ | exact Kd.C_drewN (Kd.C_drewN H.out.C _) _) H.out.cap H.out.len _ (by omega) (by omega)).mono ?_); rintro e w1 ⟨rfl, n1, rfl⟩) | (go_at_call 26; (with_reducible refine (colon_calls _ g _ c0 b at_ row op base only text V (by first | exact H.out | exact H.out.drewN _ | exact (H.out.drewN _).drewN _) _ (by omega) (by omega)).mono ?_); rintro e w1 ⟨rfl, n1, rfl⟩) | (go_at_call 22; (with_reducible refine (rblank_calls _ _).mono ?_); rintro e w1 ⟨rfl, n1, rfl⟩) | (go_at_call 37; (with_reducible refine (rflow_calls _ _).mono ?_); rintro e w1 ⟨rfl, n1, rfl⟩))
                    go_roundg m
                    case measure => omega
                    case rel => exact ⟨_, rfl, ⟨⟨by omega, by omega, HV.out, by have := HM.out; omega⟩⟩, ⟨by repeat (first | exact dr0 _ | refine dr1 ?_ _)⟩⟩
                · have s5 : decide (op > 0) = false := decide_eq_false o1
                  simp only [t1, t2b, s3, t4, s5, Bool.true_or, Bool.false_or, Bool.true_and, Bool.false_and, Bool.or_true, Bool.and_true, Bool.and_false] at hst
                  rw [if_neg (by rw [hst]; exact Bool.false_ne_true)] at HS
                  have HV := Aside0.mk HS
                  clear HS
                  go_wp2_with (first | (go_at_call 24; (with_reducible refine (next_calls _ A7 _ _ (CC7.out _) HC7.out HY7.out.1 HY7.out.2).mono ?_); rintro e w1 ⟨rfl, n1, rfl⟩) | (go_at_call 20; (with_reducible refine (break_calls _ _ c0 b (by first | exact H.out.C | exact Kd.C_drewN H.out.C _ | exact Kd.C_drewN (Kd.C_drewN H.out.C _) _) H.out.cap H.out.len _ (by omega) (by omega)).mono ?_); rintro e w1 ⟨rfl, n1, rfl⟩) | (go_at_call 26; (with_reducible refine (colon_calls _ g _ c0 b at_ row op base only text V (by first | exact H.out | exact H.out.drewN _ | exact (H.out.drewN _).drewN _) _ (by omega) (by omega)).mono ?_); rintro e w1 ⟨rfl, n1, rfl⟩) | (go_at_call 22; (with_reducible refine (rblank_calls _ _).mono ?_); rintro e w1 ⟨rfl, n1, rfl⟩) | (go_at_call 37; (with_reducible refine (rflow_calls _ _).mono ?_); rintro e w1 ⟨rfl, n1, rfl⟩))
                  go_roundg m
                  case measure => omega
                  case rel => exact ⟨_, rfl, ⟨⟨by omega, by omega, HV.out, by have := HM.out; omega⟩⟩, ⟨by repeat (first | exact dr0 _ | refine dr1 ?_ _)⟩⟩
      · have d1 : decide (x < (b.length : Int)) = false := decide_eq_false l1
        have HV : Aside0 (x = P) := ⟨by
          rw [← HX.out.2.2.1]
          cases gk with
          | zero => rfl
          | succ m => simp only [plR]; rw [if_neg l1]⟩
        go_wp2
        go_meet
        case rel => exact ⟨by rw [HV.out], ⟨by repeat (first | exact dr0 _ | refine dr1 ?_ _)⟩⟩
  case rest =>
    obtain ⟨rfl, ⟨n, rfl⟩⟩ := hcut
    go_wp2
    go_loopg [5] (P - (at_ + 1)).toNat (fun kq v w' => ∃ y : Int, v = .int .i64 y ∧ Aside0 (at_ + 1 ≤ y ∧ y ≤ P ∧ trimR b (at_ + 1) kq y = R ∧ y - (at_ + 1) ≤ (kq : Int)) ∧ Aside0 (∃ n, w' = W.drewN n))
    case atStart => exact ⟨_, rfl, ⟨⟨pl0, Int.le_refl _, HR.out.symm, by omega⟩⟩, ⟨by repeat (first | exact dr0 _ | refine dr1 ?_ _)⟩⟩
    case round =>
      obtain ⟨y, rfl, HX, ⟨n2, rfl⟩⟩ := hrel
      have hy0 := HX.out.1
      have hy1 := HX.out.2.1
      by_cases l1 : y > at_ + 1
      · have d1 : decide (y > at_ + 1) = true := decide_eq_true l1
        obtain ⟨m, rfl⟩ : ∃ m, gk = m + 1 := ⟨gk - 1, by have := HX.out.2.2.2; omega⟩
        have HM := Aside0.mk HX.out.2.2.2
        have HS := HX.out.2.2.1
        simp only [trimR] at HS
        obtain ⟨j, hj⟩ : ∃ j : Int, y - 1 = j := ⟨_, rfl⟩
        obtain ⟨ad9, ea9, hx9⟩ := Kd.at_int H.out.C (j) (by omega) (by omega)
        cases ea9
        have q19 : (0 ≤ j) = True := eq_true (by omega)
        have q29 : (j < (b.length : Int)) = True := eq_true (by omega)
        rw [hj] at HS
        clear HX
        by_cases p : Sc.blank (rd b j) = true
        · rw [if_pos ⟨l1, p⟩] at HS
          have HV := Aside0.mk HS
          clear HS
          go_wp2_with (first | (go_at_call 22; (with_reducible refine (rblank_calls _ _).mono ?_); rintro e w1 ⟨rfl, n1, rfl⟩))
          go_roundg m
          case measure => omega
          case rel => exact ⟨_, rfl, ⟨⟨by omega, by omega, HV.out, by have := HM.out; omega⟩⟩, ⟨by repeat (first | exact dr0 _ | refine dr1 ?_ _)⟩⟩
        · rw [if_neg (fun h => p h.2)] at HS
          replace p : Sc.blank (rd b j) = false := by simpa using p
          have HV := Aside0.mk HS
          clear HS
          go_wp2_with (first | (go_at_call 22; (with_reducible refine (rblank_calls _ _).mono ?_); rintro e w1 ⟨rfl, n1, rfl⟩))
          go_ret
          exact ⟨by rw [← HV.out]; rfl, by repeat (first | exact dr0 _ | refine dr1 ?_ _)⟩
      · have d1 : decide (y > at_ + 1) = false := decide_eq_false l1
        have HV : Aside0 (y = R) := ⟨by
          rw [← HX.out.2.2.1]
          cases gk with
          | zero => rfl
          | succ m => simp only [trimR]; rw [if_neg (fun h => l1 h.1)]⟩
        go_wp2
        go_ret
        exact ⟨by rw [← HV.out]; rfl, by repeat (first | exact dr0 _ | refine dr1 ?_ _)⟩

end Go.Proofs.Ytagjfcogbnhmgaa.Rf
