/- The reference's scanner: plain texts. -/
import Derived.Test.YthoogadfhopkfaaRF3
import Derived.Test.YthoogadfhopkfaaQcorrectorref1
import Derived.Deep.RegionLaw
import Derived.StillTailTactics
namespace Go.Proofs.Ythoogadfhopkfaa.Rf
open Go.RowKit Go.Proofs.Ythoogadfhopkfaa.Q Go.Proofs.YthoogadfhopkfaaW.PrintWords Go.Proofs.YthoogadfhopkfaaW.PrintLast Go.Proofs.YthoogadfhopkfaaW.PrintMore Go.Proofs.Ythoogadfhopkfaa.Sc Go.Proofs.Ythoogadfhopkfaa.Pure
attribute [local go_sem] max2_int min2_int max_two min_two max_three min_three max_four min_four
set_option linter.unusedVariables false
set_option linter.unusedSimpArgs false
set_option maxHeartbeats 1000000
set_option maxRecDepth 100000

theorem next_calls (W : World) (A2 : Option Addr) (c2 : Nat) (ys : List Int) (hC : Kd.C (Kd.int .u8) W A2 ys.length ys) (hc : ys.length ≤ c2) (hB : Byt ys) (hl : (ys.length : Int) ≤ 16384) :
    Calls Try.prog 55 #[.slice A2 ys.length c2] W fun e w' => e = .returned (.tuple #[.int .i32 (nx ys).1, .int .i64 (nx ys).2]) ∧ ∃ n, w' = W.drewN n :=
  (correctorref1_Next.calls 8 A2 c2 ys (nx ys).1 (nx ys).2 W hC hc (ref_next' 8 (Nat.le_refl _) ys hB (by omega))).mono fun _ _ h => ⟨h.1, h.2.out⟩
theorem plR_le (b : List Int) (op : Int) (hB : Byt b) : ∀ (k : Nat) (i : Int), 0 ≤ i → i ≤ (b.length : Int) → i ≤ plR b op k i ∧ plR b op k i ≤ (b.length : Int)
  | 0, i, _, h => ⟨Int.le_refl _, h⟩
  | k + 1, i, h0, h => by
    unfold plR
    split
    · rename_i h1
      split
      · exact ⟨Int.le_refl _, h⟩
      · have hf := nx_fine (b.drop i.toNat) (hB.drop _) (by rw [List.length_drop]; omega)
        rw [List.length_drop] at hf
        have := plR_le b op hB k (i + (nx (b.drop i.toNat)).2) (by omega) (by omega)
        omega
    · exact ⟨Int.le_refl _, h⟩

theorem plain_calls (W : World) (g : Nat) (A0 : Option Addr) (c0 : Nat) (b : List Int) (at_ row op base : Int) (only : Bool) (text : Int) (V : Value) (hs : RQ W g A0 c0 b at_ row op base only text V) (hB : Byt b) (h0 : 0 ≤ at_) (h1 : at_ < (b.length : Int)) :
    Calls Try.prog 61 #[.pointer (some ⟨g, 0, none⟩)] W fun e w' => e = .returned (.int .i64 (plainR b op at_)) ∧ ∃ n, w' = W.drewN n := by
  have H := Aside0.mk hs
  have hc0 := hs.cell0
  have hc1 := hs.cell1
  have hc3 := hs.cell3
  have hl := hs.len
  clear hs
  have HB := Aside0.mk hB
  clear hB
  obtain ⟨i0, hi0, _, hsz, _⟩ := info_parts (P := Try.prog) info5
  obtain ⟨A1, hcut1, hA1, hcap1⟩ := print_drop_of (P := Try.prog) (Value.int .u8) (0 : Int) 23 5 .i64 Try.underlying23 hi0 hsz A0 c0 b at_ (by omega) (by omega) H.out.cap
  have CC1 : Aside0 (∀ n, Kd.C (Kd.int .u8) (W.drewN n) A1 (b.drop (at_).toNat).length (b.drop (at_).toNat)) := ⟨fun n => Kd.C_of_reads (h1 := fun _ => rfl) (hA1 _ (Kd.reads_of_C (H.out.drewN n).C))⟩
  have hll1 : (b.drop (at_).toNat).length ≠ 0 := by rw [List.length_drop]; omega
  have hf1 := nx_fine (b.drop (at_).toNat) (HB.out.drop _) hll1
  have hlq1 : (b.drop (at_).toNat).length = b.length - (at_).toNat := List.length_drop
  have HY1 := Aside0.mk (And.intro (HB.out.drop (at_).toNat) (show ((b.drop (at_).toNat).length : Int) ≤ 16384 by omega))
  have r01 := hf1.1
  have r11 := hf1.2.1
  have r21 : (nx (b.drop (at_).toNat)).2 + at_ ≤ (b.length : Int) := by have := hf1.2.2.1; omega
  have r31 := hf1.2.2.2.1
  have r41 := hf1.2.2.2.2.1
  clear hf1 hlq1 hA1 hll1
  have hPR : plainR b op at_ = trimR b (at_ + 1) ((plR b op ((b.length : Int) - (at_ + (nx (b.drop at_.toNat)).2)).toNat (at_ + (nx (b.drop at_.toNat)).2)) - (at_ + 1)).toNat (plR b op ((b.length : Int) - (at_ + (nx (b.drop at_.toNat)).2)).toNat (at_ + (nx (b.drop at_.toNat)).2)) := rfl
  have hPL := plR_le b op HB.out ((b.length : Int) - (at_ + (nx (b.drop at_.toNat)).2)).toNat (at_ + (nx (b.drop at_.toNat)).2) (by omega) (by omega)
  have HC1 := Aside0.mk hcap1
  clear hcap1
  generalize hys1 : b.drop (at_).toNat = ys1 at *
  have HYS1 := Aside0.mk hys1
  clear hys1
  obtain ⟨P, hP⟩ : ∃ P, P = plR b op ((b.length : Int) - (at_ + (nx ys1).2)).toNat (at_ + (nx ys1).2) := ⟨_, rfl⟩
  rw [← hP] at hPR hPL
  have pl0 : at_ + 1 ≤ P := by omega
  have pl1 : P ≤ (b.length : Int) := hPL.2
  generalize plainR b op at_ = R at *
  have HR := Aside0.mk hPR
  have HP := Aside0.mk hP
  clear hPR hPL hP
  have q3 : (at_ ≤ (b.length : Int)) = True := eq_true (by omega)
  go_enter Try.func61, Try.ntmps61
  go_wp2
  go_quiet ((go_at_call 55; (with_reducible refine Calls.quiet_of (next_calls _ A1 _ _ (CC1.out _) HC1.out HY1.out.1 HY1.out.2))))
  go_upto_block 0 with (fail)
  go_cut [5] (fun v5 wc => v5 = .int .i64 P ∧ Aside0 (∃ n, wc = W.drewN n))
  case first =>
    go_wp2
    go_loopg [5] ((b.length : Int) - (at_ + (nx ys1).2)).toNat (fun kq v w' => ∃ x : Int, v = .int .i64 x ∧ Aside0 (at_ + 1 ≤ x ∧ x ≤ (b.length : Int) ∧ plR b op kq x = P ∧ (b.length : Int) - x ≤ (kq : Int)) ∧ Aside0 (∃ n, w' = W.drewN n))
    case atStart => exact ⟨_, rfl, ⟨⟨by omega, by omega, HP.out.symm, by omega⟩⟩, ⟨by repeat (first | exact dr0 _ | refine dr1 ?_ _)⟩⟩
    case round =>
      obtain ⟨x, rfl, HX, ⟨n, rfl⟩⟩ := hrel
      have hx0 := HX.out.1
      have hx1 := HX.out.2.1
      by_cases l1 : x < (b.length : Int)
      · have d1 : decide (x < (b.length : Int)) = true := decide_eq_true l1
        obtain ⟨A7, hcut7, hA7, hcap7⟩ := print_drop_of (P := Try.prog) (Value.int .u8) (0 : Int) 23 5 .i64 Try.underlying23 hi0 hsz A0 c0 b x (by omega) (by omega) H.out.cap
        have CC7 : Aside0 (∀ n, Kd.C (Kd.int .u8) (W.drewN n) A7 (b.drop (x).toNat).length (b.drop (x).toNat)) := ⟨fun n => Kd.C_of_reads (h1 := fun _ => rfl) (hA7 _ (Kd.reads_of_C (H.out.drewN n).C))⟩
        have hll7 : (b.drop (x).toNat).length ≠ 0 := by rw [List.length_drop]; omega
        have hf7 := nx_fine (b.drop (x).toNat) (HB.out.drop _) hll7
        have hlq7 : (b.drop (x).toNat).length = b.length - (x).toNat := List.length_drop
        have HY7 := Aside0.mk (And.intro (HB.out.drop (x).toNat) (show ((b.drop (x).toNat).length : Int) ≤ 16384 by omega))
        have r07 := hf7.1
        have r17 := hf7.2.1
        have r27 : (nx (b.drop (x).toNat)).2 + x ≤ (b.length : Int) := by have := hf7.2.2.1; omega
        have r37 := hf7.2.2.2.1
        have r47 := hf7.2.2.2.2.1
        clear hf7 hlq7 hA7 hll7
        obtain ⟨m, rfl⟩ : ∃ m, gk = m + 1 := ⟨gk - 1, by have := HX.out.2.2.2; omega⟩
        have HM := Aside0.mk HX.out.2.2.2
        have HS := HX.out.2.2.1
        simp only [plR] at HS
        rw [if_pos l1] at HS
        obtain ⟨ad8, ea8, hx8⟩ := Kd.at_int H.out.C (x) (by omega) l1
        cases ea8
        have q18 : (0 ≤ x) = True := eq_true (by omega)
        have q28 : (x < (b.length : Int)) = True := eq_true (by omega)
        obtain ⟨j, hj⟩ : ∃ j : Int, x - 1 = j := ⟨_, rfl⟩
        obtain ⟨ad9, ea9, hx9⟩ := Kd.at_int H.out.C (j) (by omega) (by omega)
        cases ea9
        have q19 : (0 ≤ j) = True := eq_true (by omega)
        have q29 : (j < (b.length : Int)) = True := eq_true (by omega)
        have HC7 := Aside0.mk hcap7
        clear hcap7
        generalize hys7 : b.drop (x).toNat = ys7 at *
        have HYS7 := Aside0.mk hys7
        clear hys7
        have hst : plStop b op x = (decide ((nx ys7).1 < 0) || (decide (0 < brk b x) || (colon b op x || ((rd b x == 35 && Sc.blank (rd b (x - 1))) || (decide (op > 0) && flow (rd b x)))))) := by unfold plStop; rw [HYS7.out]
        rw [hj] at hst
        have q4 : (x ≤ (b.length : Int)) = True := eq_true (by omega)
        clear HX
        by_cases s1 : (nx ys7).1 < 0
        · have t1 : decide ((nx ys7).1 < 0) = true := decide_eq_true s1
          simp only [t1, Bool.true_or, Bool.false_or, Bool.true_and, Bool.false_and, Bool.or_true, Bool.and_true, Bool.and_false] at hst
          rw [if_pos hst] at HS
          have HV := Aside0.mk HS
          clear HS
          go_wp2_with (first | (go_at_call 55; (with_reducible refine (next_calls _ A7 _ _ (CC7.out _) HC7.out HY7.out.1 HY7.out.2).mono ?_); rintro e w1 ⟨rfl, n1, rfl⟩) | (go_at_call 51; (with_reducible refine (break_calls _ _ c0 b (by first | exact H.out.C | exact Kd.C_drewN H.out.C _ | exact Kd.C_drewN (Kd.C_drewN H.out.C _) _) H.out.cap H.out.len _ (by omega) (by omega)).mono ?_); rintro e w1 ⟨rfl, n1, rfl⟩) | (go_at_call 57; (with_reducible refine (colon_calls _ g _ c0 b at_ row op base only text V (by first | exact H.out | exact H.out.drewN _ | exact (H.out.drewN _).drewN _) _ (by omega) (by omega)).mono ?_); rintro e w1 ⟨rfl, n1, rfl⟩) | (go_at_call 53; (with_reducible refine (rblank_calls _ _).mono ?_); rintro e w1 ⟨rfl, n1, rfl⟩) | (go_at_call 68; (with_reducible refine (rflow_calls _ _).mono ?_); rintro e w1 ⟨rfl, n1, rfl⟩))
          go_meet
          case rel => exact ⟨by rw [HV.out], ⟨by repeat (first | exact dr0 _ | refine dr1 ?_ _)⟩⟩
        · have t1 : decide ((nx ys7).1 < 0) = false := decide_eq_false s1
          by_cases s2 : brk b x > 0
          · have t2 : decide (brk b x > 0) = true := decide_eq_true s2
            have t2b : decide (0 < brk b x) = true := decide_eq_true s2
            simp only [t1, t2b, Bool.true_or, Bool.false_or, Bool.true_and, Bool.false_and, Bool.or_true, Bool.and_true, Bool.and_false] at hst
            rw [if_pos hst] at HS
            have HV := Aside0.mk HS
            clear HS
            go_wp2_with (first | (go_at_call 55; (with_reducible refine (next_calls _ A7 _ _ (CC7.out _) HC7.out HY7.out.1 HY7.out.2).mono ?_); rintro e w1 ⟨rfl, n1, rfl⟩) | (go_at_call 51; (with_reducible refine (break_calls _ _ c0 b (by first | exact H.out.C | exact Kd.C_drewN H.out.C _ | exact Kd.C_drewN (Kd.C_drewN H.out.C _) _) H.out.cap H.out.len _ (by omega) (by omega)).mono ?_); rintro e w1 ⟨rfl, n1, rfl⟩) | (go_at_call 57; (with_reducible refine (colon_calls _ g _ c0 b at_ row op base only text V (by first | exact H.out | exact H.out.drewN _ | exact (H.out.drewN _).drewN _) _ (by omega) (by omega)).mono ?_); rintro e w1 ⟨rfl, n1, rfl⟩) | (go_at_call 53; (with_reducible refine (rblank_calls _ _).mono ?_); rintro e w1 ⟨rfl, n1, rfl⟩) | (go_at_call 68; (with_reducible refine (rflow_calls _ _).mono ?_); rintro e w1 ⟨rfl, n1, rfl⟩))
            go_meet
            case rel => exact ⟨by rw [HV.out], ⟨by repeat (first | exact dr0 _ | refine dr1 ?_ _)⟩⟩
          · have t2 : decide (brk b x > 0) = false := decide_eq_false s2
            have t2b : decide (0 < brk b x) = false := decide_eq_false s2
            by_cases s3 : colon b op x = true
            · simp only [t1, t2b, s3, Bool.true_or, Bool.false_or, Bool.true_and, Bool.false_and, Bool.or_true, Bool.and_true, Bool.and_false] at hst
              rw [if_pos hst] at HS
              have HV := Aside0.mk HS
              clear HS
              go_wp2_with (first | (go_at_call 55; (with_reducible refine (next_calls _ A7 _ _ (CC7.out _) HC7.out HY7.out.1 HY7.out.2).mono ?_); rintro e w1 ⟨rfl, n1, rfl⟩) | (go_at_call 51; (with_reducible refine (break_calls _ _ c0 b (by first | exact H.out.C | exact Kd.C_drewN H.out.C _ | exact Kd.C_drewN (Kd.C_drewN H.out.C _) _) H.out.cap H.out.len _ (by omega) (by omega)).mono ?_); rintro e w1 ⟨rfl, n1, rfl⟩) | (go_at_call 57; (with_reducible refine (colon_calls _ g _ c0 b at_ row op base only text V (by first | exact H.out | exact H.out.drewN _ | exact (H.out.drewN _).drewN _) _ (by omega) (by omega)).mono ?_); rintro e w1 ⟨rfl, n1, rfl⟩) | (go_at_call 53; (with_reducible refine (rblank_calls _ _).mono ?_); rintro e w1 ⟨rfl, n1, rfl⟩) | (go_at_call 68; (with_reducible refine (rflow_calls _ _).mono ?_); rintro e w1 ⟨rfl, n1, rfl⟩))
              go_meet
              case rel => exact ⟨by rw [HV.out], ⟨by repeat (first | exact dr0 _ | refine dr1 ?_ _)⟩⟩
            · replace s3 : colon b op x = false := by simpa using s3
              by_cases s4 : rd b x = 35
              · have t4 : (rd b x == 35) = true := beq_iff_eq.mpr s4
                clear s4
                by_cases s7 : Sc.blank (rd b j) = true
                · simp only [t1, t2b, s3, t4, s7, Bool.true_or, Bool.false_or, Bool.true_and, Bool.false_and, Bool.or_true, Bool.and_true, Bool.and_false] at hst
                  rw [if_pos hst] at HS
                  have HV := Aside0.mk HS
                  clear HS
                  go_wp2_with (first | (go_at_call 55; (with_reducible refine (next_calls _ A7 _ _ (CC7.out _) HC7.out HY7.out.1 HY7.out.2).mono ?_); rintro e w1 ⟨rfl, n1, rfl⟩) | (go_at_call 51; (with_reducible refine (break_calls _ _ c0 b (by first | exact H.out.C | exact Kd.C_drewN H.out.C _ | exact Kd.C_drewN (Kd.C_drewN H.out.C _) _) H.out.cap H.out.len _ (by omega) (by omega)).mono ?_); rintro e w1 ⟨rfl, n1, rfl⟩) | (go_at_call 57; (with_reducible refine (colon_calls _ g _ c0 b at_ row op base only text V (by first | exact H.out | exact H.out.drewN _ | exact (H.out.drewN _).drewN _) _ (by omega) (by omega)).mono ?_); rintro e w1 ⟨rfl, n1, rfl⟩) | (go_at_call 53; (with_reducible refine (rblank_calls _ _).mono ?_); rintro e w1 ⟨rfl, n1, rfl⟩) | (go_at_call 68; (with_reducible refine (rflow_calls _ _).mono ?_); rintro e w1 ⟨rfl, n1, rfl⟩))
                  go_meet
                  case rel => exact ⟨by rw [HV.out], ⟨by repeat (first | exact dr0 _ | refine dr1 ?_ _)⟩⟩
                · replace s7 : Sc.blank (rd b j) = false := by simpa using s7
                  by_cases o1 : op > 0
                  · have s5 : decide (op > 0) = true := decide_eq_true o1
                    by_cases s6 : flow (rd b x) = true
                    · simp only [t1, t2b, s3, t4, s7, s5, s6, Bool.true_or, Bool.false_or, Bool.true_and, Bool.false_and, Bool.or_true, Bool.and_true, Bool.and_false] at hst
                      rw [if_pos hst] at HS
                      have HV := Aside0.mk HS
                      clear HS
                      go_wp2_with (first | (go_at_call 55; (with_reducible refine (next_calls _ A7 _ _ (CC7.out _) HC7.out HY7.out.1 HY7.out.2).mono ?_); rintro e w1 ⟨rfl, n1, rfl⟩) | (go_at_call 51; (with_reducible refine (break_calls _ _ c0 b (by first | exact H.out.C | exact Kd.C_drewN H.out.C _ | exact Kd.C_drewN (Kd.C_drewN H.out.C _) _) H.out.cap H.out.len _ (by omega) (by omega)).mono ?_); rintro e w1 ⟨rfl, n1, rfl⟩) | (go_at_call 57; (with_reducible refine (colon_calls _ g _ c0 b at_ row op base only text V (by first | exact H.out | exact H.out.drewN _ | exact (H.out.drewN _).drewN _) _ (by omega) (by omega)).mono ?_); rintro e w1 ⟨rfl, n1, rfl⟩) | (go_at_call 53; (with_reducible refine (rblank_calls _ _).mono ?_); rintro e w1 ⟨rfl, n1, rfl⟩) | (go_at_call 68; (with_reducible refine (rflow_calls _ _).mono ?_); rintro e w1 ⟨rfl, n1, rfl⟩))
                      go_meet
                      case rel => exact ⟨by rw [HV.out], ⟨by repeat (first | exact dr0 _ | refine dr1 ?_ _)⟩⟩
                    · replace s6 : flow (rd b x) = false := by simpa using s6
                      simp only [t1, t2b, s3, t4, s7, s5, s6, Bool.true_or, Bool.false_or, Bool.true_and, Bool.false_and, Bool.or_true, Bool.and_true, Bool.and_false] at hst
                      rw [if_neg (by rw [hst]; exact Bool.false_ne_true)] at HS
                      have HV := Aside0.mk HS
                      clear HS
                      go_wp2_with (first | (go_at_call 55; (with_reducible refine (next_calls _ A7 _ _ (CC7.out _) HC7.out HY7.out.1 HY7.out.2).mono ?_); rintro e w1 ⟨rfl, n1, rfl⟩) | (go_at_call 51; (with_reducible refine (break_calls _ _ c0 b (by first | exact H.out.C | exact Kd.C_drewN H.out.C _ | exact Kd.C_drewN (Kd.C_drewN H.out.C _) _) H.out.cap H.out.len _ (by omega) (by omega)).mono ?_); rintro e w1 ⟨rfl, n1, rfl⟩) | (go_at_call 57; (with_reducible refine (colon_calls _ g _ c0 b at_ row op base only text V (by first | exact H.out | exact H.out.drewN _ | exact (H.out.drewN _).drewN _) _ (by omega) (by omega)).mono ?_); rintro e w1 ⟨rfl, n1, rfl⟩) | (go_at_call 53; (with_reducible refine (rblank_calls _ _).mono ?_); rintro e w1 ⟨rfl, n1, rfl⟩) | (go_at_call 68; (with_reducible refine (rflow_calls _ _).mono ?_); rintro e w1 ⟨rfl, n1, rfl⟩))
                      go_roundg m
                      case measure => omega
                      case rel => exact ⟨_, rfl, ⟨⟨by omega, by omega, HV.out, by have := HM.out; omega⟩⟩, ⟨by repeat (first | exact dr0 _ | refine dr1 ?_ _)⟩⟩
                  · have s5 : decide (op > 0) = false := decide_eq_false o1
                    simp only [t1, t2b, s3, t4, s7, s5, Bool.true_or, Bool.false_or, Bool.true_and, Bool.false_and, Bool.or_true, Bool.and_true, Bool.and_false] at hst
                    rw [if_neg (by rw [hst]; exact Bool.false_ne_true)] at HS
                    have HV := Aside0.mk HS
                    clear HS
                    go_wp2_with (first | (go_at_call 55; (with_reducible refine (next_calls _ A7 _ _ (CC7.out _) HC7.out HY7.out.1 HY7.out.2).mono ?_); rintro e w1 ⟨rfl, n1, rfl⟩) | (go_at_call 51; (with_reducible refine (break_calls _ _ c0 b (by first | exact H.out.C | exact Kd.C_drewN H.out.C _ | exact Kd.C_drewN (Kd.C_drewN H.out.C _) _) H.out.cap H.out.len _ (by omega) (by omega)).mono ?_); rintro e w1 ⟨rfl, n1, rfl⟩) | (go_at_call 57; (with_reducible refine (colon_calls _ g _ c0 b at_ row op base only text V (by first | exact H.out | exact H.out.drewN _ | exact (H.out.drewN _).drewN _) _ (by omega) (by omega)).mono ?_); rintro e w1 ⟨rfl, n1, rfl⟩) | (go_at_call 53; (with_reducible refine (rblank_calls _ _).mono ?_); rintro e w1 ⟨rfl, n1, rfl⟩) | (go_at_call 68; (with_reducible refine (rflow_calls _ _).mono ?_); rintro e w1 ⟨rfl, n1, rfl⟩))
                    go_roundg m
                    case measure => omega
                    case rel => exact ⟨_, rfl, ⟨⟨by omega, by omega, HV.out, by have := HM.out; omega⟩⟩, ⟨by repeat (first | exact dr0 _ | refine dr1 ?_ _)⟩⟩
              · have t4 : (rd b x == 35) = false := beq_eq_false_iff_ne.mpr s4
                clear s4
                by_cases o1 : op > 0
                · have s5 : decide (op > 0) = true := decide_eq_true o1
                  by_cases s6 : flow (rd b x) = true
                  · simp only [t1, t2b, s3, t4, s5, s6, Bool.true_or, Bool.false_or, Bool.true_and, Bool.false_and, Bool.or_true, Bool.and_true, Bool.and_false] at hst
                    rw [if_pos hst] at HS
                    have HV := Aside0.mk HS
                    clear HS
                    go_wp2_with (first | (go_at_call 55; (with_reducible refine (next_calls _ A7 _ _ (CC7.out _) HC7.out HY7.out.1 HY7.out.2).mono ?_); rintro e w1 ⟨rfl, n1, rfl⟩) | (go_at_call 51; (with_reducible refine (break_calls _ _ c0 b (by first | exact H.out.C | exact Kd.C_drewN H.out.C _ | exact Kd.C_drewN (Kd.C_drewN H.out.C _) _) H.out.cap H.out.len _ (by omega) (by omega)).mono ?_); rintro e w1 ⟨rfl, n1, rfl⟩) | (go_at_call 57; (with_reducible refine (colon_calls _ g _ c0 b at_ row op base only text V (by first | exact H.out | exact H.out.drewN _ | exact (H.out.drewN _).drewN _) _ (by omega) (by omega)).mono ?_); rintro e w1 ⟨rfl, n1, rfl⟩) | (go_at_call 53; (with_reducible refine (rblank_calls _ _).mono ?_); rintro e w1 ⟨rfl, n1, rfl⟩) | (go_at_call 68; (with_reducible refine (rflow_calls _ _).mono ?_); rintro e w1 ⟨rfl, n1, rfl⟩))
                    go_meet
                    case rel => exact ⟨by rw [HV.out], ⟨by repeat (first | exact dr0 _ | refine dr1 ?_ _)⟩⟩
                  · replace s6 : flow (rd b x) = false := by simpa using s6
                    simp only [t1, t2b, s3, t4, s5, s6, Bool.true_or, Bool.false_or, Bool.true_and, Bool.false_and, Bool.or_true, Bool.and_true, Bool.and_false] at hst
                    rw [if_neg (by rw [hst]; exact Bool.false_ne_true)] at HS
                    have HV := Aside0.mk HS
                    clear HS
                    go_wp2_with (first | (go_at_call 55; (with_reducible refine (next_calls _ A7 _ _ (CC7.out _) HC7.out HY7.out.1 HY7.out.2).mono ?_); rintro e w1 ⟨rfl, n1, rfl⟩) | (go_at_call 51; (with_reducible refine (break_calls _ _ c0 b (by first | exact H.out.C | exact Kd.C_drewN H.out.C _ | exact Kd.C_drewN (Kd.C_drewN H.out.C _) _) H.out.cap H.out.len _ (by omega) (by omega)).mono ?_); rintro e w1 ⟨rfl, n1, rfl⟩) | (go_at_call 57; (with_reducible refine (colon_calls _ g _ c0 b at_ row op base only text V (by first | exact H.out | exact H.out.drewN _ | exact (H.out.drewN _).drewN _) _ (by omega) (by omega)).mono ?_); rintro e w1 ⟨rfl, n1, rfl⟩) | (go_at_call 53; (with_reducible refine (rblank_calls _ _).mono ?_); rintro e w1 ⟨rfl, n1, rfl⟩) | (go_at_call 68; (with_reducible refine (rflow_calls _ _).mono ?_); rintro e w1 ⟨rfl, n1, rfl⟩))
                    go_roundg m
                    case measure => omega
                    case rel => exact ⟨_, rfl, ⟨⟨by omega, by omega, HV.out, by have := HM.out; omega⟩⟩, ⟨by repeat (first | exact dr0 _ | refine dr1 ?_ _)⟩⟩
                · have s5 : decide (op > 0) = false := decide_eq_false o1
                  simp only [t1, t2b, s3, t4, s5, Bool.true_or, Bool.false_or, Bool.true_and, Bool.false_and, Bool.or_true, Bool.and_true, Bool.and_false] at hst
                  rw [if_neg (by rw [hst]; exact Bool.false_ne_true)] at HS
                  have HV := Aside0.mk HS
                  clear HS
                  go_wp2_with (first | (go_at_call 55; (with_reducible refine (next_calls _ A7 _ _ (CC7.out _) HC7.out HY7.out.1 HY7.out.2).mono ?_); rintro e w1 ⟨rfl, n1, rfl⟩) | (go_at_call 51; (with_reducible refine (break_calls _ _ c0 b (by first | exact H.out.C | exact Kd.C_drewN H.out.C _ | exact Kd.C_drewN (Kd.C_drewN H.out.C _) _) H.out.cap H.out.len _ (by omega) (by omega)).mono ?_); rintro e w1 ⟨rfl, n1, rfl⟩) | (go_at_call 57; (with_reducible refine (colon_calls _ g _ c0 b at_ row op base only text V (by first | exact H.out | exact H.out.drewN _ | exact (H.out.drewN _).drewN _) _ (by omega) (by omega)).mono ?_); rintro e w1 ⟨rfl, n1, rfl⟩) | (go_at_call 53; (with_reducible refine (rblank_calls _ _).mono ?_); rintro e w1 ⟨rfl, n1, rfl⟩) | (go_at_call 68; (with_reducible refine (rflow_calls _ _).mono ?_); rintro e w1 ⟨rfl, n1, rfl⟩))
                  go_roundg m
                  case measure => omega
                  case rel => exact ⟨_, rfl, ⟨⟨by omega, by omega, HV.out, by have := HM.out; omega⟩⟩, ⟨by repeat (first | exact dr0 _ | refine dr1 ?_ _)⟩⟩
      · have d1 : decide (x < (b.length : Int)) = false := decide_eq_false l1
        have HV : Aside0 (x = P) := ⟨by
          rw [← HX.out.2.2.1]
          cases gk with
          | zero => rfl
          | succ m => simp only [plR]; rw [if_neg l1]⟩
        go_wp2
        go_meet
        case rel => exact ⟨by rw [HV.out], ⟨by repeat (first | exact dr0 _ | refine dr1 ?_ _)⟩⟩
  case rest =>
    obtain ⟨rfl, ⟨n, rfl⟩⟩ := hcut
    go_wp2
    go_loopg [5] (P - (at_ + 1)).toNat (fun kq v w' => ∃ y : Int, v = .int .i64 y ∧ Aside0 (at_ + 1 ≤ y ∧ y ≤ P ∧ trimR b (at_ + 1) kq y = R ∧ y - (at_ + 1) ≤ (kq : Int)) ∧ Aside0 (∃ n, w' = W.drewN n))
    case atStart => exact ⟨_, rfl, ⟨⟨pl0, Int.le_refl _, HR.out.symm, by omega⟩⟩, ⟨by repeat (first | exact dr0 _ | refine dr1 ?_ _)⟩⟩
    case round =>
      obtain ⟨y, rfl, HX, ⟨n2, rfl⟩⟩ := hrel
      have hy0 := HX.out.1
      have hy1 := HX.out.2.1
      by_cases l1 : y > at_ + 1
      · have d1 : decide (y > at_ + 1) = true := decide_eq_true l1
        obtain ⟨m, rfl⟩ : ∃ m, gk = m + 1 := ⟨gk - 1, by have := HX.out.2.2.2; omega⟩
        have HM := Aside0.mk HX.out.2.2.2
        have HS := HX.out.2.2.1
        simp only [trimR] at HS
        obtain ⟨j, hj⟩ : ∃ j : Int, y - 1 = j := ⟨_, rfl⟩
        obtain ⟨ad9, ea9, hx9⟩ := Kd.at_int H.out.C (j) (by omega) (by omega)
        cases ea9
        have q19 : (0 ≤ j) = True := eq_true (by omega)
        have q29 : (j < (b.length : Int)) = True := eq_true (by omega)
        rw [hj] at HS
        clear HX
        by_cases p : Sc.blank (rd b j) = true
        · rw [if_pos ⟨l1, p⟩] at HS
          have HV := Aside0.mk HS
          clear HS
          go_wp2_with (first | (go_at_call 53; (with_reducible refine (rblank_calls _ _).mono ?_); rintro e w1 ⟨rfl, n1, rfl⟩))
          go_roundg m
          case measure => omega
          case rel => exact ⟨_, rfl, ⟨⟨by omega, by omega, HV.out, by have := HM.out; omega⟩⟩, ⟨by repeat (first | exact dr0 _ | refine dr1 ?_ _)⟩⟩
        · rw [if_neg (fun h => p h.2)] at HS
          replace p : Sc.blank (rd b j) = false := by simpa using p
          have HV := Aside0.mk HS
          clear HS
          go_wp2_with (first | (go_at_call 53; (with_reducible refine (rblank_calls _ _).mono ?_); rintro e w1 ⟨rfl, n1, rfl⟩))
          go_ret
          exact ⟨by rw [← HV.out]; rfl, by repeat (first | exact dr0 _ | refine dr1 ?_ _)⟩
      · have d1 : decide (y > at_ + 1) = false := decide_eq_false l1
        have HV : Aside0 (y = R) := ⟨by
          rw [← HX.out.2.2.1]
          cases gk with
          | zero => rfl
          | succ m => simp only [trimR]; rw [if_neg (fun h => l1 h.1)]⟩
        go_wp2
        go_ret
        exact ⟨by rw [← HV.out]; rfl, by repeat (first | exact dr0 _ | refine dr1 ?_ _)⟩

end Go.Proofs.Ythoogadfhopkfaa.Rf
/- The reference's scanner: what writes its fields, and lays a token. -/
namespace Go.Proofs.Ythoogadfhopkfaa.Rf
open Go.RowKit Go.Proofs.Ythoogadfhopkfaa.Q Go.Proofs.YthoogadfhopkfaaW.PrintWords Go.Proofs.YthoogadfhopkfaaW.PrintLast Go.Proofs.YthoogadfhopkfaaW.PrintMore Go.Proofs.Ythoogadfhopkfaa.Sc Go.Proofs.Ythoogadfhopkfaa.Pure
attribute [local go_sem] max2_int min2_int max_two min_two max_three min_three max_four min_four
set_option linter.unusedVariables false
set_option linter.unusedSimpArgs false
set_option maxHeartbeats 1000000
set_option maxRecDepth 100000

/-- A scanner at block g of W, made behind w0, and its tokens. -/
structure RR (w0 W : World) (g : Nat) (A0 : Option Addr) (c0 : Nat) (b : List Int) (at_ row op base : Int) (only : Bool) (text : Int) (V : Value) (l : List S32) : Prop where
  q : RQ W g A0 c0 b at_ row op base only text V
  r : Kd.R k32 32 W w0.heap.size (fun _ => True) V l
  ge : w0.heap.size ≤ g
  B : Below w0.heap.size w0 W
  C : Kd.C (Kd.int .u8) w0 A0 b.length b
section
variable {w0 W : World} {g : Nat} {A0 : Option Addr} {c0 : Nat} {b : List Int} {at_ row op base : Int} {only : Bool} {text : Int} {V : Value} {l : List S32}
theorem RR.drewN (h : RR w0 W g A0 c0 b at_ row op base only text V l) (n : Nat) : RR w0 (W.drewN n) g A0 c0 b at_ row op base only text V l := ⟨h.q.drewN n, Kd.R_drewN h.r n, h.ge, pw_below_drewN h.B n, h.C⟩
theorem RR.below {W1 : World} (h : RR w0 W g A0 c0 b at_ row op base only text V l) (hb : Below W.heap.size W W1) : RR w0 W1 g A0 c0 b at_ row op base only text V l :=
  ⟨⟨blk_below h.q.blk hb, Kd.C_below h.q.C hb, h.q.cap, h.q.len⟩, Kd.R_below h.r hb, h.ge, below_step h.B hb, h.C⟩
theorem RR.drew (h : RR w0 W g A0 c0 b at_ row op base only text V l) : RR w0 W.drew g A0 c0 b at_ row op base only text V l := h.below (below_drew (Below.refl _ _))
theorem RR.step (h : RR w0 W g A0 c0 b at_ row op base only text V l) (j : Nat) (u : Value) {at2 row2 op2 base2 : Int} {only2 : Bool} {text2 : Int}
    (e : (#[.slice A0 b.length c0, .int .i64 at_, .int .i64 row, .int .i64 op, .int .i64 base, .bool only, .int .i64 text, V] : Array Value).setIfInBounds j u = #[.slice A0 b.length c0, .int .i64 at2, .int .i64 row2, .int .i64 op2, .int .i64 base2, .bool only2, .int .i64 text2, V]) :
    RR w0 (W.setCell ⟨g, j, none⟩ u) g A0 c0 b at2 row2 op2 base2 only2 text2 V l :=
  have hB := below_set (j := j) (v := u) h.B h.ge
  ⟨⟨by rw [← e]; exact blk_set h.q.blk j u, Kd.C_below h.C hB, h.q.cap, h.q.len⟩, Kd.R_set h.r h.q.blk (by decide) j u, h.ge, hB, h.C⟩
theorem RR.set1 (h : RR w0 W g A0 c0 b at_ row op base only text V l) (x : Int) : RR w0 (W.setCell ⟨g, 1, none⟩ (.int .i64 x)) g A0 c0 b x row op base only text V l := h.step 1 _ rfl
theorem RR.set2 (h : RR w0 W g A0 c0 b at_ row op base only text V l) (x : Int) : RR w0 (W.setCell ⟨g, 2, none⟩ (.int .i64 x)) g A0 c0 b at_ x op base only text V l := h.step 2 _ rfl
theorem RR.set3 (h : RR w0 W g A0 c0 b at_ row op base only text V l) (x : Int) : RR w0 (W.setCell ⟨g, 3, none⟩ (.int .i64 x)) g A0 c0 b at_ row x base only text V l := h.step 3 _ rfl
theorem RR.set4 (h : RR w0 W g A0 c0 b at_ row op base only text V l) (x : Int) : RR w0 (W.setCell ⟨g, 4, none⟩ (.int .i64 x)) g A0 c0 b at_ row op x only text V l := h.step 4 _ rfl
theorem RR.set6 (h : RR w0 W g A0 c0 b at_ row op base only text V l) (x : Int) : RR w0 (W.setCell ⟨g, 6, none⟩ (.int .i64 x)) g A0 c0 b at_ row op base only x V l := h.step 6 _ rfl
theorem RR.set5 (h : RR w0 W g A0 c0 b at_ row op base only text V l) (x : Bool) : RR w0 (W.setCell ⟨g, 5, none⟩ (.bool x)) g A0 c0 b at_ row op base x text V l := h.step 5 _ rfl
theorem RR.ne (h : RR w0 W g A0 c0 b at_ row op base only text V l) : some g ≠ V.ownBlock := Kd.R_ne h.r h.q.blk (by decide)
theorem RR.blk1 (h : RR w0 W g A0 c0 b at_ row op base only text V l) {w1 : World} (hg : W.grownBy w1 V.ownBlock) : w1.heap[g]? = some (.cells #[.slice A0 b.length c0, .int .i64 at_, .int .i64 row, .int .i64 op, .int .i64 base, .bool only, .int .i64 text, V] 47 (0, 0)) := blk_grown h.q.blk hg h.ne
theorem RR.laid (h : RR w0 W g A0 c0 b at_ row op base only text V l) {w1 : World} {v1 : Value} {l1 : List S32} (hr : Kd.R k32 32 w1 w0.heap.size (fun _ => True) v1 l1) (hB : Below w0.heap.size w0 w1) (hg : W.grownBy w1 V.ownBlock) :
    RR w0 (w1.setCell ⟨g, 7, none⟩ v1) g A0 c0 b at_ row op base only text v1 l1 :=
  have hB2 := below_set (j := 7) (v := v1) hB h.ge
  ⟨⟨blk_set (h.blk1 hg) 7 v1, Kd.C_below h.C hB2, h.q.cap, h.q.len⟩, Kd.R_set hr (h.blk1 hg) (by decide) 7 v1, h.ge, hB2, h.C⟩
end
def RS (w0 W : World) (g : Nat) (A0 : Option Addr) (c0 : Nat) (b : List Int) (s : RSt) : Prop := ∃ V, RR w0 W g A0 c0 b s.at_ s.row s.op s.base s.only s.text V s.l

theorem scnext_calls (w0 W : World) (g : Nat) (A0 : Option Addr) (c0 : Nat) (b : List Int) (at_ row op base : Int) (only : Bool) (text : Int) (V : Value) (l : List S32) (hs : RR w0 W g A0 c0 b at_ row op base only text V l)  :
    Calls Try.prog 24 #[.pointer (some ⟨g, 0, none⟩)] W fun e w' => e = .returned (.tuple #[]) ∧ RR w0 w' g A0 c0 b at_ at_ op (-1) true text V l := by
  have H := Aside0.mk hs
  have hc0 := hs.q.cell0
  have hc1 := hs.q.cell1
  have hc2 := hs.q.cell2
  have hc3 := hs.q.cell3
  have hc4 := hs.q.cell4
  have hc5 := hs.q.cell5
  have hc6 := hs.q.cell6
  have hc7 := hs.q.cell7
  have hf1 := blk_frozen hs.q.blk 1
  have hf2 := blk_frozen hs.q.blk 2
  have hf3 := blk_frozen hs.q.blk 3
  have hf4 := blk_frozen hs.q.blk 4
  have hf5 := blk_frozen hs.q.blk 5
  have hf6 := blk_frozen hs.q.blk 6
  have hf7 := blk_frozen hs.q.blk 7
  have hl := hs.q.len
  clear hs
  go_enter Try.func24, Try.ntmps24
  go_wp2
  go_end0
  exact ⟨rfl, by repeat (first | exact H.out | exact H.out.drewN _ | exact (H.out.drewN _).drewN _ | (with_reducible first | apply RR.drew | apply RR.set1 | apply RR.set2 | apply RR.set3 | apply RR.set4 | apply RR.set5 | apply RR.set6))⟩

theorem counts_calls (k : Int) (W : World) : Calls Try.prog 50 #[.int .i64 k] W fun e w' => e = .returned (.bool (counts k)) ∧ ∃ n, w' = W.drewN n := by
  rcases (by omega : k = 1 ∨ k = 2 ∨ k = 3 ∨ k = 4 ∨ (k ≠ 1 ∧ k ≠ 2 ∧ k ≠ 3 ∧ k ≠ 4)) with c | c | c | c | c
  · have k1 : (k != 1) = false := bne_eq_false_iff_eq.mpr c
    have hR : counts k = false := by simp [counts, *]
    rw [hR]
    clear hR c
    go_enter Try.func50, Try.ntmps50
    go_wp2
    go_ret
    exact ⟨rfl, by repeat (first | exact dr0 _ | refine dr1 ?_ _)⟩
  · have k1 : (k != 1) = true := bne_iff_ne.mpr (by omega)
    have k2 : (k != 2) = false := bne_eq_false_iff_eq.mpr c
    have hR : counts k = false := by simp [counts, *]
    rw [hR]
    clear hR c
    go_enter Try.func50, Try.ntmps50
    go_wp2
    go_ret
    exact ⟨rfl, by repeat (first | exact dr0 _ | refine dr1 ?_ _)⟩
  · have k1 : (k != 1) = true := bne_iff_ne.mpr (by omega)
    have k2 : (k != 2) = true := bne_iff_ne.mpr (by omega)
    have k3 : (k != 3) = false := bne_eq_false_iff_eq.mpr c
    have hR : counts k = false := by simp [counts, *]
    rw [hR]
    clear hR c
    go_enter Try.func50, Try.ntmps50
    go_wp2
    go_ret
    exact ⟨rfl, by repeat (first | exact dr0 _ | refine dr1 ?_ _)⟩
  · have k1 : (k != 1) = true := bne_iff_ne.mpr (by omega)
    have k2 : (k != 2) = true := bne_iff_ne.mpr (by omega)
    have k3 : (k != 3) = true := bne_iff_ne.mpr (by omega)
    have k4 : (k != 4) = false := bne_eq_false_iff_eq.mpr c
    have hR : counts k = false := by simp [counts, *]
    rw [hR]
    clear hR c
    go_enter Try.func50, Try.ntmps50
    go_wp2
    go_ret
    exact ⟨rfl, by repeat (first | exact dr0 _ | refine dr1 ?_ _)⟩
  · have k1 : (k != 1) = true := bne_iff_ne.mpr (by omega)
    have k2 : (k != 2) = true := bne_iff_ne.mpr (by omega)
    have k3 : (k != 3) = true := bne_iff_ne.mpr (by omega)
    have k4 : (k != 4) = true := bne_iff_ne.mpr (by omega)
    have hR : counts k = true := by simp [counts, *]
    rw [hR]
    clear hR c
    go_enter Try.func50, Try.ntmps50
    go_wp2
    go_ret
    exact ⟨rfl, by repeat (first | exact dr0 _ | refine dr1 ?_ _)⟩

theorem add_calls (w0 W : World) (g : Nat) (A0 : Option Addr) (c0 : Nat) (b : List Int) (at_ row op base : Int) (only : Bool) (text : Int) (V : Value) (l : List S32) (hs : RR w0 W g A0 c0 b at_ row op base only text V l) (kind e1 : Int) (h0 : 0 ≤ row) (h1 : row ≤ at_) (h2 : at_ ≤ 16384) (hn : (l.length : Int) ≤ 16384) :
    Calls Try.prog 26 #[.pointer (some ⟨g, 0, none⟩), .int .i64 kind, .int .i64 e1] W fun e w' => e = .returned (.tuple #[]) ∧ ∃ V', RR w0 w' g A0 c0 b e1 row op (adBase kind at_ row base) (adOnly kind only) text V' (l ++ [⟨kind, at_, e1⟩]) := by
  have H := Aside0.mk hs
  have hc0 := hs.q.cell0
  have hc1 := hs.q.cell1
  have hc2 := hs.q.cell2
  have hc3 := hs.q.cell3
  have hc4 := hs.q.cell4
  have hc5 := hs.q.cell5
  have hc6 := hs.q.cell6
  have hc7 := hs.q.cell7
  have hf1 := blk_frozen hs.q.blk 1
  have hf2 := blk_frozen hs.q.blk 2
  have hf3 := blk_frozen hs.q.blk 3
  have hf4 := blk_frozen hs.q.blk 4
  have hf5 := blk_frozen hs.q.blk 5
  have hf6 := blk_frozen hs.q.blk 6
  have hf7 := blk_frozen hs.q.blk 7
  have hl := hs.q.len
  clear hs
  go_enter Try.func26, Try.ntmps26
  apply wp_seq_k; intro K1 hK1
  go_cut [] (fun wc => Aside0 (RR w0 wc g A0 c0 b at_ row op (adBase kind at_ row base) only text V l))
  case first =>
    by_cases k1 : counts kind = true
    · by_cases k2 : kind = 19
      · have k3 : (kind != 19) = false := bne_eq_false_iff_eq.mpr k2
        clear k2
        have hR := Aside0.mk (show adBase kind at_ row base = base by simp [adBase, *])
        go_wp2_with (first | (go_at_call 50; (with_reducible refine (counts_calls _ _).mono ?_); rintro e w1 ⟨rfl, n1, rfl⟩))
        go_meet
        case rel => exact ⟨by rw [hR.out]; exact (by repeat (first | exact H.out | exact H.out.drewN _ | exact (H.out.drewN _).drewN _ | (with_reducible first | apply RR.drew | apply RR.set1 | apply RR.set2 | apply RR.set3 | apply RR.set4 | apply RR.set5 | apply RR.set6)))⟩
      · have k3 : (kind != 19) = true := bne_iff_ne.mpr k2
        clear k2
        by_cases k4 : base < 0
        · have k5 : decide (base < 0) = true := decide_eq_true k4
          have hR := Aside0.mk (show adBase kind at_ row base = at_ - row by simp [adBase, *])
          go_wp2_with (first | (go_at_call 50; (with_reducible refine (counts_calls _ _).mono ?_); rintro e w1 ⟨rfl, n1, rfl⟩))
          have H3 := Aside0.mk (H.out.drewN n1)
          generalize W.drewN n1 = w3 at *
          clear hc0 hc1 hc2 hc3 hc4 hc5 hc6 hc7 hf1 hf2 hf3 hf4 hf5 hf6 hf7
          have pc0 := H3.out.q.cell0
          have pc1 := H3.out.q.cell1
          have pc2 := H3.out.q.cell2
          have pc3 := H3.out.q.cell3
          have pc4 := H3.out.q.cell4
          have pc5 := H3.out.q.cell5
          have pc6 := H3.out.q.cell6
          have pc7 := H3.out.q.cell7
          have pf1 := blk_frozen H3.out.q.blk 1
          have pf2 := blk_frozen H3.out.q.blk 2
          have pf3 := blk_frozen H3.out.q.blk 3
          have pf4 := blk_frozen H3.out.q.blk 4
          have pf5 := blk_frozen H3.out.q.blk 5
          have pf6 := blk_frozen H3.out.q.blk 6
          have pf7 := blk_frozen H3.out.q.blk 7
          go_still_tail 10, (by kernel_rfl)
          go_wp2
          go_meet
          case rel => exact ⟨by rw [hR.out]; exact (by repeat (first | exact H3.out | (with_reducible first | apply RR.drew | apply RR.set1 | apply RR.set2 | apply RR.set3 | apply RR.set4 | apply RR.set5 | apply RR.set6)))⟩
        · have k5 : decide (base < 0) = false := decide_eq_false k4
          have hR := Aside0.mk (show adBase kind at_ row base = base by simp [adBase, *])
          go_wp2_with (first | (go_at_call 50; (with_reducible refine (counts_calls _ _).mono ?_); rintro e w1 ⟨rfl, n1, rfl⟩))
          go_meet
          case rel => exact ⟨by rw [hR.out]; exact (by repeat (first | exact H.out | exact H.out.drewN _ | exact (H.out.drewN _).drewN _ | (with_reducible first | apply RR.drew | apply RR.set1 | apply RR.set2 | apply RR.set3 | apply RR.set4 | apply RR.set5 | apply RR.set6)))⟩
    · replace k1 : counts kind = false := by simpa using k1
      have hR := Aside0.mk (show adBase kind at_ row base = base by simp [adBase, *])
      go_wp2_with (first | (go_at_call 50; (with_reducible refine (counts_calls _ _).mono ?_); rintro e w1 ⟨rfl, n1, rfl⟩))
      go_meet
      case rel => exact ⟨by rw [hR.out]; exact (by repeat (first | exact H.out | exact H.out.drewN _ | exact (H.out.drewN _).drewN _ | (with_reducible first | apply RR.drew | apply RR.set1 | apply RR.set2 | apply RR.set3 | apply RR.set4 | apply RR.set5 | apply RR.set6)))⟩
  case rest =>
    have H1 := Aside0.mk hcut.out
    clear hcut H
    clear hc0 hc1 hc2 hc3 hc4 hc5 hc6 hc7 hf1 hf2 hf3 hf4 hf5 hf6 hf7
    have pc0 := H1.out.q.cell0
    have pc1 := H1.out.q.cell1
    have pc2 := H1.out.q.cell2
    have pc3 := H1.out.q.cell3
    have pc4 := H1.out.q.cell4
    have pc5 := H1.out.q.cell5
    have pc6 := H1.out.q.cell6
    have pc7 := H1.out.q.cell7
    have pf1 := blk_frozen H1.out.q.blk 1
    have pf2 := blk_frozen H1.out.q.blk 2
    have pf3 := blk_frozen H1.out.q.blk 3
    have pf4 := blk_frozen H1.out.q.blk 4
    have pf5 := blk_frozen H1.out.q.blk 5
    have pf6 := blk_frozen H1.out.q.blk 6
    have pf7 := blk_frozen H1.out.q.blk 7
    generalize adBase kind at_ row base = base1 at *
    apply hK1
    apply wp_seq_k; intro K2 hK2
    go_cut [] (fun wc => Aside0 (RR w0 wc g A0 c0 b at_ row op base1 (adOnly kind only) text V l))
    case first =>
      rcases (by omega : kind = 2 ∨ kind = 3 ∨ kind = 5 ∨ kind = 20 ∨ (kind ≠ 2 ∧ kind ≠ 3 ∧ kind ≠ 5 ∧ kind ≠ 20)) with c | c | c | c | c
      · have k2 : (kind != 2) = false := bne_eq_false_iff_eq.mpr c
        have hR := Aside0.mk (show adOnly kind only = only by simp [adOnly, *])
        try clear c
        go_wp2
        go_meet
        case rel => exact ⟨by rw [hR.out]; exact (by repeat (first | exact H1.out | exact H1.out.drewN _ | exact (H1.out.drewN _).drewN _ | (with_reducible first | apply RR.drew | apply RR.set1 | apply RR.set2 | apply RR.set3 | apply RR.set4 | apply RR.set5 | apply RR.set6)))⟩
      · have k2 : (kind != 2) = true := bne_iff_ne.mpr (by omega)
        have k3 : (kind != 3) = false := bne_eq_false_iff_eq.mpr c
        have hR := Aside0.mk (show adOnly kind only = only by simp [adOnly, *])
        try clear c
        go_wp2
        go_meet
        case rel => exact ⟨by rw [hR.out]; exact (by repeat (first | exact H1.out | exact H1.out.drewN _ | exact (H1.out.drewN _).drewN _ | (with_reducible first | apply RR.drew | apply RR.set1 | apply RR.set2 | apply RR.set3 | apply RR.set4 | apply RR.set5 | apply RR.set6)))⟩
      · have k2 : (kind != 2) = true := bne_iff_ne.mpr (by omega)
        have k3 : (kind != 3) = true := bne_iff_ne.mpr (by omega)
        have k5 : (kind != 5) = false := bne_eq_false_iff_eq.mpr c
        have hR := Aside0.mk (show adOnly kind only = only by simp [adOnly, *])
        try clear c
        go_wp2
        go_meet
        case rel => exact ⟨by rw [hR.out]; exact (by repeat (first | exact H1.out | exact H1.out.drewN _ | exact (H1.out.drewN _).drewN _ | (with_reducible first | apply RR.drew | apply RR.set1 | apply RR.set2 | apply RR.set3 | apply RR.set4 | apply RR.set5 | apply RR.set6)))⟩
      · have k2 : (kind != 2) = true := bne_iff_ne.mpr (by omega)
        have k3 : (kind != 3) = true := bne_iff_ne.mpr (by omega)
        have k5 : (kind != 5) = true := bne_iff_ne.mpr (by omega)
        have k20 : (kind != 20) = false := bne_eq_false_iff_eq.mpr c
        have hR := Aside0.mk (show adOnly kind only = only by simp [adOnly, *])
        try clear c
        go_wp2
        go_meet
        case rel => exact ⟨by rw [hR.out]; exact (by repeat (first | exact H1.out | exact H1.out.drewN _ | exact (H1.out.drewN _).drewN _ | (with_reducible first | apply RR.drew | apply RR.set1 | apply RR.set2 | apply RR.set3 | apply RR.set4 | apply RR.set5 | apply RR.set6)))⟩
      · have k2 : (kind != 2) = true := bne_iff_ne.mpr (by omega)
        have k3 : (kind != 3) = true := bne_iff_ne.mpr (by omega)
        have k5 : (kind != 5) = true := bne_iff_ne.mpr (by omega)
        have k20 : (kind != 20) = true := bne_iff_ne.mpr (by omega)
        have hR := Aside0.mk (show adOnly kind only = false by simp [adOnly, *])
        try clear c
        go_wp2
        go_meet
        case rel => exact ⟨by rw [hR.out]; exact (by repeat (first | exact H1.out | exact H1.out.drewN _ | exact (H1.out.drewN _).drewN _ | (with_reducible first | apply RR.drew | apply RR.set1 | apply RR.set2 | apply RR.set3 | apply RR.set4 | apply RR.set5 | apply RR.set6)))⟩
    case rest =>
      have H2 := Aside0.mk hcut.out
      clear hcut H1
      clear pc0 pc1 pc2 pc3 pc4 pc5 pc6 pc7 pf1 pf2 pf3 pf4 pf5 pf6 pf7
      have qc0 := H2.out.q.cell0
      have qc1 := H2.out.q.cell1
      have qc2 := H2.out.q.cell2
      have qc3 := H2.out.q.cell3
      have qc4 := H2.out.q.cell4
      have qc5 := H2.out.q.cell5
      have qc6 := H2.out.q.cell6
      have qc7 := H2.out.q.cell7
      have qf1 := blk_frozen H2.out.q.blk 1
      have qf2 := blk_frozen H2.out.q.blk 2
      have qf3 := blk_frozen H2.out.q.blk 3
      have qf4 := blk_frozen H2.out.q.blk 4
      have qf5 := blk_frozen H2.out.q.blk 5
      have qf6 := blk_frozen H2.out.q.blk 6
      have qf7 := blk_frozen H2.out.q.blk 7
      generalize adOnly kind only = only1 at *
      obtain ⟨A2, c2, rfl⟩ := Kd.R_slice H2.out.r
      apply hK2
      go_wp2
      have hnb : g < wc.heap.size := World.block_lt_of_cell? _ _ qc1
      have al7 : ∀ o : Obj, (wc.drew.alloc o).cell? ⟨g, 7, none⟩ = some (.slice A2 l.length c2) := fun o => (World.cell?_alloc_past o g 7 hnb).trans qc7
      go_region_law ((refine Kd.R_append_step k32 (w0 := w0) w0.heap.size (by rfl) (.tmp 52) (.tmp 60) 27 32 (.agg #[(.int .i64 0), (.int .i64 0), (.int .i64 0)]) 24 (by rfl) Try.underlying27 info32 rfl (by decide) (by omega) (.slice A2 l.length c2) l (⟨kind, at_, e1⟩ : S32) [.int .i64 kind, .int .i64 at_, .int .i64 e1] (fun _ => True) (fun _ => False) (by rfl) (by rfl) (k32_mkM _ _ _ _) (fun _ hk => hk.elim) (fun _ _ => trivial) (H2.out.drewN 1).r (H2.out.drewN 1).B (H2.out.drewN 1).B.size (by omega) ?_; intro v1 w1 hr1 hb1 hg1 hat1; obtain ⟨Ao, co, eo⟩ := Kd.R_slice hr1; rw [show (l ++ [(⟨kind, at_, e1⟩ : S32)]).length = l.length + 1 by simp] at eo; subst eo; have hk1 := (H2.out.drewN 1).blk1 hg1; have sc7 := blk_cell hk1 7; have sf7 := blk_frozen hk1 7))
      all_goals
        have H4 := Aside0.mk ((H2.out.drewN 1).laid hr1 hb1 hg1)
        have gc1 := blk_cell hk1 1
        have gf1 := blk_frozen hk1 1
        go_wp2
        first | go_end0 | ((try simp only [Exit.inBlock, Exit.then]); refine bodyPost_ret (results_none rfl _ _ _) rfl ?_)
        exact ⟨rfl, _, by repeat (first | exact H4.out | exact H4.out.drewN _ | exact (H4.out.drewN _).drewN _ | (with_reducible first | apply RR.drew | apply RR.set1 | apply RR.set2 | apply RR.set3 | apply RR.set4 | apply RR.set5 | apply RR.set6))⟩

end Go.Proofs.Ythoogadfhopkfaa.Rf
/- The reference's scanner: the rows of a block text. -/
namespace Go.Proofs.Ythoogadfhopkfaa.Rf
open Go.RowKit Go.Proofs.Ythoogadfhopkfaa.Q Go.Proofs.YthoogadfhopkfaaW.PrintWords Go.Proofs.YthoogadfhopkfaaW.PrintLast Go.Proofs.YthoogadfhopkfaaW.PrintMore Go.Proofs.Ythoogadfhopkfaa.Sc Go.Proofs.Ythoogadfhopkfaa.Pure
attribute [local go_sem] max2_int min2_int max_two min_two max_three min_three max_four min_four
set_option linter.unusedVariables false
set_option linter.unusedSimpArgs false
set_option maxHeartbeats 1000000
set_option maxRecDepth 100000

theorem brk_le {b : List Int} {i : Int} (h : 0 < brk b i) : i + brk b i ≤ (b.length : Int) := by
  unfold brk at h ⊢
  split
  · rename_i h1
    have := (th_true (Bool.and_eq_true _ _ |>.mp h1).2).1
    omega
  · rename_i h1
    rw [if_neg h1] at h
    split
    · rename_i h2
      rcases Bool.or_eq_true _ _ |>.mp h2 with h3 | h3 <;> have := (th_true h3).1 <;> omega
    · rename_i h2
      rw [if_neg h2] at h
      omega
theorem upto_at {n : Int} {p : Int → Bool} : ∀ {i : Int}, upto n p i < n → p (upto n p i) = false := by
  intro i h
  have key : ∀ (k : Nat) (i : Int), k = (n - i).toNat → upto n p i < n → p (upto n p i) = false := by
    intro k
    induction k with
    | zero =>
      intro i hk h
      rw [upto_end (by omega)] at h
      omega
    | succ k ih =>
      intro i hk h
      by_cases hp : p i = true
      · rw [upto_go (by omega) hp] at h ⊢
        exact ih (i + 1) (by omega) h
      · rw [upto_stop (by simpa using hp)]
        simpa using hp
  exact key _ i rfl h
/-- Behind a row there is more than ahead of it. -/
theorem line_more {b : List Int} {i : Int} (h : i < (b.length : Int)) : i < line b i + brk b (line b i) ∧ line b i + brk b (line b i) ≤ (b.length : Int) := by
  have h1 := upto_le (n := (b.length : Int)) (i := i) (p := fun j => brk b j == 0) (Int.le_of_lt h)
  have h0 : i ≤ line b i := h1.1
  have h2 : line b i ≤ (b.length : Int) := h1.2
  have h3 := brk_range b (line b i)
  by_cases h4 : line b i < (b.length : Int)
  · have h5 : (brk b (line b i) == 0) = false := upto_at (p := fun j => brk b j == 0) h4
    have h6 : brk b (line b i) ≠ 0 := by simpa using h5
    exact ⟨by omega, brk_le (by omega)⟩
  · have h7 : brk b (line b i) = 0 := by
      rcases Int.lt_or_le 0 (brk b (line b i)) with h8 | h8
      · have := brk_le h8; omega
      · omega
    omega
/-- What the rows' loop wants of a scanner. -/
structure OkT (b : List Int) (s : RSt) : Prop where
  r0 : 0 ≤ s.row
  r1 : s.row ≤ s.at_
  a1 : s.at_ ≤ (b.length : Int)
  n : (s.l.length : Int) ≤ s.at_
theorem OkT.next {b : List Int} {s : RSt} (h : OkT b s) (k : Int) {e : Int} (h1 : s.at_ < e) (h2 : e ≤ (b.length : Int)) : OkT b (nextR (addR k e s)) := by
  have := h.r0
  have := h.r1
  have := h.n
  refine ⟨?_, ?_, h2, ?_⟩
  · simp only [nextR, addR]; omega
  · simp only [nextR, addR]; omega
  · simp only [nextR, addR, List.length_append, List.length_singleton]; omega

theorem texts_calls (w0 W : World) (g : Nat) (A0 : Option Addr) (c0 : Nat) (b : List Int) (at_ row op base : Int) (only : Bool) (text : Int) (V : Value) (l : List S32) (hs : RR w0 W g A0 c0 b at_ row op base only text V l) (hk : OkT b (⟨at_, row, op, base, only, text, l⟩ : RSt)) :
    Calls Try.prog 52 #[.pointer (some ⟨g, 0, none⟩)] W fun e w' => e = .returned (.tuple #[]) ∧ RS w0 w' g A0 c0 b (textsR b (⟨at_, row, op, base, only, text, l⟩ : RSt)) := by
  have H := Aside0.mk hs
  have hc0 := hs.q.cell0
  have hc1 := hs.q.cell1
  have hc2 := hs.q.cell2
  have hc3 := hs.q.cell3
  have hc4 := hs.q.cell4
  have hc5 := hs.q.cell5
  have hc6 := hs.q.cell6
  have hc7 := hs.q.cell7
  have hf1 := blk_frozen hs.q.blk 1
  have hf2 := blk_frozen hs.q.blk 2
  have hf3 := blk_frozen hs.q.blk 3
  have hf4 := blk_frozen hs.q.blk 4
  have hf5 := blk_frozen hs.q.blk 5
  have hf6 := blk_frozen hs.q.blk 6
  have hf7 := blk_frozen hs.q.blk 7
  have hl := hs.q.len
  clear hs
  have hrow0 : 0 ≤ row := hk.r0
  have hrow1 : row ≤ at_ := hk.r1
  have hat1 : at_ ≤ (b.length : Int) := hk.a1
  have hln : (l.length : Int) ≤ at_ := hk.n
  have HK := Aside0.mk (show OkT b (⟨at_, row, op, base, only, -2, l⟩ : RSt) from ⟨hk.r0, hk.r1, hk.a1, hk.n⟩)
  clear hk
  have HR : Aside0 (textsR b (⟨at_, row, op, base, only, text, l⟩ : RSt) = rowsR b text ((b.length : Int) - at_).toNat ⟨at_, row, op, base, only, -2, l⟩) := ⟨rfl⟩
  go_enter Try.func52, Try.ntmps52
  go_wp2
  go_loopg [3, 4, 5] ((b.length : Int) - at_).toNat (fun kq v3 v4 v5 wq => ∃ s : RSt, Aside0 (OkT b s ∧ rowsR b text kq s = rowsR b text ((b.length : Int) - at_).toNat ⟨at_, row, op, base, only, -2, l⟩ ∧ (b.length : Int) - s.at_ ≤ kq) ∧ Aside0 (RS w0 wq g A0 c0 b s))
  case atStart => exact ⟨_, ⟨⟨HK.out, rfl, by dsimp only; omega⟩⟩, ⟨⟨V, (show RR w0 _ g _ c0 b at_ row op base only (-2) V l from by repeat (first | exact H.out | exact H.out.drewN _ | exact (H.out.drewN _).drewN _ | (with_reducible first | apply RR.drew | apply RR.set1 | apply RR.set2 | apply RR.set3 | apply RR.set4 | apply RR.set5 | apply RR.set6)))⟩⟩⟩
  case round =>
    clear hrow0 hrow1 hat1 hln HK hc0 hc1 hc2 hc3 hc4 hc5 hc6 hc7 hf1 hf2 hf3 hf4 hf5 hf6 hf7
    obtain ⟨s, HX, HSS⟩ := hrel
    obtain ⟨at3, row3, op3, base3, only3, text3, l3⟩ := s
    obtain ⟨V3, h3⟩ := HSS.out
    have H3 : Aside0 (RR w0 wr g A0 c0 b at3 row3 op3 base3 only3 text3 V3 l3) := ⟨h3⟩
    clear h3 HSS H
    have gc0 := H3.out.q.cell0
    have gc1 := H3.out.q.cell1
    have gc2 := H3.out.q.cell2
    have gc3 := H3.out.q.cell3
    have gc4 := H3.out.q.cell4
    have gc5 := H3.out.q.cell5
    have gc6 := H3.out.q.cell6
    have gc7 := H3.out.q.cell7
    have gf1 := blk_frozen H3.out.q.blk 1
    have gf2 := blk_frozen H3.out.q.blk 2
    have gf3 := blk_frozen H3.out.q.blk 3
    have gf4 := blk_frozen H3.out.q.blk 4
    have gf5 := blk_frozen H3.out.q.blk 5
    have gf6 := blk_frozen H3.out.q.blk 6
    have gf7 := blk_frozen H3.out.q.blk 7
    have K3 := Aside0.mk HX.out.1
    have hrow0 : 0 ≤ row3 := K3.out.r0
    have hrow1 : row3 ≤ at3 := K3.out.r1
    have hln : (l3.length : Int) ≤ at3 := K3.out.n
    have hat1 : at3 ≤ (b.length : Int) := K3.out.a1
    by_cases c1 : at3 < (b.length : Int)
    · have d1 : decide (at3 < (b.length : Int)) = true := decide_eq_true c1
      by_cases c2 : markR b at3 = 0
      · have d2 : (markR b at3 == 0) = true := beq_iff_eq.mpr c2
        obtain ⟨m, rfl⟩ : ∃ m, gk = m + 1 := ⟨gk - 1, by have h_ : (b.length : Int) - at3 ≤ (gk : Int) := HX.out.2.2; omega⟩
        have HT := HX.out.2.1
        simp only [rowsR] at HT
        rw [if_pos ⟨c1, c2⟩] at HT
        have HM : Aside0 ((b.length : Int) - at3 ≤ ((m + 1 : Nat) : Int)) := ⟨HX.out.2.2⟩
        clear HX c2
        have hb_ := upto_le (n := (b.length : Int)) (i := at3) (p := fun j => brk b j == 0) hat1
        have e0 : at3 ≤ line b at3 := hb_.1
        have e1 : line b at3 ≤ (b.length : Int) := hb_.2
        have hb_ := upto_le (n := line b at3) (i := at3) (p := fun j => rd b j == 32) e0
        have s0 : at3 ≤ sp2 b (⟨at3, row3, op3, base3, only3, text3, l3⟩ : RSt) := hb_.1
        have s1 : sp2 b (⟨at3, row3, op3, base3, only3, text3, l3⟩ : RSt) ≤ line b at3 := hb_.2
        have hb_ := upto_le (n := line b at3) (i := sp2 b (⟨at3, row3, op3, base3, only3, text3, l3⟩ : RSt)) (p := fun j => Sc.blank (rd b j)) s1
        have m0 : sp2 b (⟨at3, row3, op3, base3, only3, text3, l3⟩ : RSt) ≤ bl2 b (⟨at3, row3, op3, base3, only3, text3, l3⟩ : RSt) := hb_.1
        have m1 : bl2 b (⟨at3, row3, op3, base3, only3, text3, l3⟩ : RSt) ≤ line b at3 := hb_.2
        clear hb_
        have bk := brk_range b (line b at3)
        have bk0 := bk.1
        have bk1 := bk.2
        clear bk
        have lm := line_more (b := b) c1
        have lm0 := lm.1
        have lm1 := lm.2
        clear lm
        have HN : Aside0 (sp2 b (⟨at3, row3, op3, base3, only3, text3, l3⟩ : RSt) = upto (line b at3) (fun x => rd b x == 32) at3) := ⟨rfl⟩
        have HQ : Aside0 (bl2 b (⟨at3, row3, op3, base3, only3, text3, l3⟩ : RSt) = upto (line b at3) (fun x => Sc.blank (rd b x)) (sp2 b (⟨at3, row3, op3, base3, only3, text3, l3⟩ : RSt))) := ⟨rfl⟩
        generalize bl2 b (⟨at3, row3, op3, base3, only3, text3, l3⟩ : RSt) = M at *
        generalize sp2 b (⟨at3, row3, op3, base3, only3, text3, l3⟩ : RSt) = N at *
        have HT3 := Aside0.mk HT
        clear HT
        have HE : Aside0 (∃ E, line b at3 = E) := ⟨⟨_, rfl⟩⟩
        go_wp2
        go_quiet ((go_at_call 25; (with_reducible refine Calls.quiet_of (mark_calls _ g _ c0 b at3 row3 op3 base3 only3 text3 V3 (by first | exact H3.out.q | exact H3.out.q.drewN _ | exact (H3.out.q.drewN _).drewN _) at3 (by omega) (by omega)))))
        go_upto_block 2 with (first | (go_at_call 54; (with_reducible refine (rowEnd_calls _ g _ c0 b at3 row3 op3 base3 only3 text3 V3 (by first | exact H3.out.q | exact H3.out.q.drewN _ | exact (H3.out.q.drewN _).drewN _) _ (by omega) (by omega)).mono ?_); rintro e w1 ⟨rfl, n1, rfl⟩))
        generalize line b at3 = E at *
        go_cut [4] (fun v4 wc => v4 = .int .i64 N ∧ Aside0 (∃ n, wc = wr.drewN n))
        case first =>
          go_wp2
          go_loopg [4] (E - at3).toNat (fun kq v w' => ∃ x : Int, v = .int .i64 x ∧ Aside0 (at3 ≤ x ∧ x ≤ E ∧ upto E (fun x => rd b x == 32) x = N ∧ kq = (E - x).toNat) ∧ Aside0 (∃ n, w' = wr.drewN n))
          case atStart => exact ⟨_, rfl, ⟨⟨by omega, by omega, HN.out.symm, rfl⟩⟩, ⟨by repeat (first | exact dr0 _ | refine dr1 ?_ _)⟩⟩
          case round =>
            obtain ⟨x, rfl, HX9, ⟨n9, rfl⟩⟩ := hrel
            have hx0 := HX9.out.1
            have hx1 := HX9.out.2.1
            by_cases l9 : x < E
            · have d9 : decide (x < E) = true := decide_eq_true l9
              have lx : x < (b.length : Int) := by omega
              obtain ⟨ad9, ea9, hx9⟩ := Kd.at_int H3.out.q.C (x) (by omega) lx
              try cases ea9
              have q19 : (0 ≤ x) = True := eq_true (by omega)
              have q29 : (x < (b.length : Int)) = True := eq_true (by omega)
              by_cases p9 : (rd b x == 32) = true
              · have PX := Aside0.mk p9
                have L9 := Aside0.mk l9
                go_wp2
                go_roundg (E - (x + 1)).toNat
                case measure => have := HX9.out.2.2.2; omega
                case rel => exact ⟨x + 1, rfl, ⟨⟨by omega, by omega, by rw [← HX9.out.2.2.1]; exact (upto_go L9.out PX.out).symm, rfl⟩⟩, ⟨by repeat (first | exact dr0 _ | refine dr1 ?_ _)⟩⟩
              · replace p9 : (rd b x == 32) = false := by simpa using p9
                have PX := Aside0.mk p9
                go_wp2
                go_meet
                case rel => exact ⟨by rw [← HX9.out.2.2.1, show upto E (fun x => rd b x == 32) x = x from upto_stop PX.out], ⟨by repeat (first | exact dr0 _ | refine dr1 ?_ _)⟩⟩
            · have d9 : decide (x < E) = false := decide_eq_false l9
              have L9 := Aside0.mk l9
              clear l9
              go_wp2
              go_meet
              case rel => exact ⟨by rw [← HX9.out.2.2.1, upto_end (by have := L9.out; omega)], ⟨by repeat (first | exact dr0 _ | refine dr1 ?_ _)⟩⟩
        case rest =>
          obtain ⟨rfl, ⟨n4, rfl⟩⟩ := hcut
          go_upto_block 4 with (fail)
          go_cut [5] (fun v5 wc => v5 = .int .i64 M ∧ Aside0 (∃ n, wc = wr.drewN n))
          case first =>
            go_wp2
            go_loopg [5] (E - N).toNat (fun kq v w' => ∃ x : Int, v = .int .i64 x ∧ Aside0 (N ≤ x ∧ x ≤ E ∧ upto E (fun x => Sc.blank (rd b x)) x = M ∧ kq = (E - x).toNat) ∧ Aside0 (∃ n, w' = wr.drewN n))
            case atStart => exact ⟨_, rfl, ⟨⟨by omega, by omega, HQ.out.symm, rfl⟩⟩, ⟨by repeat (first | exact dr0 _ | refine dr1 ?_ _)⟩⟩
            case round =>
              obtain ⟨x, rfl, HX9, ⟨n9, rfl⟩⟩ := hrel
              have hx0 := HX9.out.1
              have hx1 := HX9.out.2.1
              by_cases l9 : x < E
              · have d9 : decide (x < E) = true := decide_eq_true l9
                have lx : x < (b.length : Int) := by omega
                obtain ⟨ad9, ea9, hx9⟩ := Kd.at_int H3.out.q.C (x) (by omega) lx
                try cases ea9
                have q19 : (0 ≤ x) = True := eq_true (by omega)
                have q29 : (x < (b.length : Int)) = True := eq_true (by omega)
                by_cases p9 : (Sc.blank (rd b x)) = true
                · have PX := Aside0.mk p9
                  have L9 := Aside0.mk l9
                  go_wp2_with (first | (go_at_call 53; (with_reducible refine (rblank_calls _ _).mono ?_); rintro e w1 ⟨rfl, n1, rfl⟩))
                  go_roundg (E - (x + 1)).toNat
                  case measure => have := HX9.out.2.2.2; omega
                  case rel => exact ⟨x + 1, rfl, ⟨⟨by omega, by omega, by rw [← HX9.out.2.2.1]; exact (upto_go L9.out PX.out).symm, rfl⟩⟩, ⟨by repeat (first | exact dr0 _ | refine dr1 ?_ _)⟩⟩
                · replace p9 : (Sc.blank (rd b x)) = false := by simpa using p9
                  have PX := Aside0.mk p9
                  go_wp2_with (first | (go_at_call 53; (with_reducible refine (rblank_calls _ _).mono ?_); rintro e w1 ⟨rfl, n1, rfl⟩))
                  go_meet
                  case rel => exact ⟨by rw [← HX9.out.2.2.1, show upto E (fun x => Sc.blank (rd b x)) x = x from upto_stop PX.out], ⟨by repeat (first | exact dr0 _ | refine dr1 ?_ _)⟩⟩
              · have d9 : decide (x < E) = false := decide_eq_false l9
                have L9 := Aside0.mk l9
                clear l9
                go_wp2
                go_meet
                case rel => exact ⟨by rw [← HX9.out.2.2.1, upto_end (by have := L9.out; omega)], ⟨by repeat (first | exact dr0 _ | refine dr1 ?_ _)⟩⟩
          case rest =>
            obtain ⟨rfl, ⟨n5, rfl⟩⟩ := hcut
            have HT := HT3.out
            clear HT3
            by_cases c3 : M < E
            · have d3 : decide (M < E) = true := decide_eq_true c3
              by_cases c4 : N - at3 ≤ text
              · have d4 : decide (N - at3 ≤ text) = true := decide_eq_true c4
                rw [if_pos ⟨c3, c4⟩] at HT
                have HT2 : Aside0 ((⟨at3, row3, op3, base3, only3, text3, l3⟩ : RSt) = textsR b (⟨at_, row, op, base, only, text, l⟩ : RSt)) := ⟨by rw [HR.out]; exact HT⟩
                clear HT c3 c4
                go_wp2
                first | rw [Exit.noGoto_ret] | rw [Exit.noGoto_normal] | skip
                first | go_end0 | ((try simp only [Exit.inBlock, Exit.then]); refine bodyPost_ret (results_none rfl _ _ _) rfl ?_)
                exact ⟨rfl, by rw [← HT2.out]; exact ⟨V3, (show RR w0 _ g _ c0 b at3 row3 op3 base3 only3 text3 V3 l3 from by repeat (first | exact H3.out | exact H3.out.drewN _ | exact (H3.out.drewN _).drewN _ | (with_reducible first | apply RR.drew | apply RR.set1 | apply RR.set2 | apply RR.set3 | apply RR.set4 | apply RR.set5 | apply RR.set6)))⟩⟩
              · have d4 : decide (N - at3 ≤ text) = false := decide_eq_false c4
                rw [if_neg (fun h => c4 h.2)] at HT
                have HT2 := Aside0.mk HT
                clear HT c3 c4
                go_wp2_with (first | (go_at_call 51; (with_reducible refine (break_calls _ _ c0 b (by first | exact H3.out.q.C | exact (H3.out.q.drewN _).C | exact ((H3.out.q.drewN _).drewN _).C) H3.out.q.cap H3.out.q.len _ (by omega) (by omega)).mono ?_); rintro e w1 ⟨rfl, n1, rfl⟩) | (go_at_call 26; (with_reducible refine (add_calls w0 _ g _ c0 b at3 row3 op3 base3 only3 text3 V3 l3 (by repeat (first | exact H3.out | exact H3.out.drewN _ | exact (H3.out.drewN _).drewN _ | (with_reducible first | apply RR.drew | apply RR.set1 | apply RR.set2 | apply RR.set3 | apply RR.set4 | apply RR.set5 | apply RR.set6))) _ _ (by omega) (by omega) (by omega) (by omega)).mono ?_); rintro e w2 ⟨rfl, V5, h2⟩; have H5 := Aside0.mk h2; clear h2) | (go_at_call 24; (with_reducible refine (scnext_calls w0 _ g _ c0 b _ _ _ _ _ _ _ _ (by repeat (first | exact H5.out | exact H5.out.drewN _ | exact (H5.out.drewN _).drewN _ | (with_reducible first | apply RR.drew | apply RR.set1 | apply RR.set2 | apply RR.set3 | apply RR.set4 | apply RR.set5 | apply RR.set6)))).mono ?_); rintro e w3 ⟨rfl, h3⟩; have H6 := Aside0.mk h3; clear h3))
                go_roundg m
                case measure => omega
                case rel => exact ⟨nextR (addR 19 (E + brk b E) (⟨at3, row3, op3, base3, only3, text3, l3⟩ : RSt)), ⟨⟨K3.out.next 19 (by dsimp only; omega) lm1, HT2.out, by dsimp only [nextR, addR]; have := HM.out; omega⟩⟩, ⟨⟨V5, H6.out⟩⟩⟩
            · have d3 : decide (M < E) = false := decide_eq_false c3
              rw [if_neg (fun h => c3 h.1)] at HT
              have HT2 := Aside0.mk HT
              clear HT c3
              go_wp2_with (first | (go_at_call 51; (with_reducible refine (break_calls _ _ c0 b (by first | exact H3.out.q.C | exact (H3.out.q.drewN _).C | exact ((H3.out.q.drewN _).drewN _).C) H3.out.q.cap H3.out.q.len _ (by omega) (by omega)).mono ?_); rintro e w1 ⟨rfl, n1, rfl⟩) | (go_at_call 26; (with_reducible refine (add_calls w0 _ g _ c0 b at3 row3 op3 base3 only3 text3 V3 l3 (by repeat (first | exact H3.out | exact H3.out.drewN _ | exact (H3.out.drewN _).drewN _ | (with_reducible first | apply RR.drew | apply RR.set1 | apply RR.set2 | apply RR.set3 | apply RR.set4 | apply RR.set5 | apply RR.set6))) _ _ (by omega) (by omega) (by omega) (by omega)).mono ?_); rintro e w2 ⟨rfl, V5, h2⟩; have H5 := Aside0.mk h2; clear h2) | (go_at_call 24; (with_reducible refine (scnext_calls w0 _ g _ c0 b _ _ _ _ _ _ _ _ (by repeat (first | exact H5.out | exact H5.out.drewN _ | exact (H5.out.drewN _).drewN _ | (with_reducible first | apply RR.drew | apply RR.set1 | apply RR.set2 | apply RR.set3 | apply RR.set4 | apply RR.set5 | apply RR.set6)))).mono ?_); rintro e w3 ⟨rfl, h3⟩; have H6 := Aside0.mk h3; clear h3))
              go_roundg m
              case measure => omega
              case rel => exact ⟨nextR (addR 19 (E + brk b E) (⟨at3, row3, op3, base3, only3, text3, l3⟩ : RSt)), ⟨⟨K3.out.next 19 (by dsimp only; omega) lm1, HT2.out, by dsimp only [nextR, addR]; have := HM.out; omega⟩⟩, ⟨⟨V5, H6.out⟩⟩⟩
      · have d2 : (markR b at3 == 0) = false := beq_eq_false_iff_ne.mpr c2
        have HT : (⟨at3, row3, op3, base3, only3, text3, l3⟩ : RSt) = textsR b (⟨at_, row, op, base, only, text, l⟩ : RSt) := by
          have h_ := HX.out.2.1
          rw [HR.out]
          cases gk with
          | zero => exact h_
          | succ m => simp only [rowsR] at h_; rwa [if_neg (fun h => c2 h.2)] at h_
        have HT2 := Aside0.mk HT
        clear HT HX
        clear c2
        go_wp2
        go_quiet ((go_at_call 25; (with_reducible refine Calls.quiet_of (mark_calls _ g _ c0 b at3 row3 op3 base3 only3 text3 V3 (by first | exact H3.out.q | exact H3.out.q.drewN _ | exact (H3.out.q.drewN _).drewN _) at3 (by omega) (by omega)))))
        go_wp2
        first | rw [Exit.noGoto_ret] | rw [Exit.noGoto_normal] | skip
        first | go_end0 | ((try simp only [Exit.inBlock, Exit.then]); refine bodyPost_ret (results_none rfl _ _ _) rfl ?_)
        exact ⟨rfl, by rw [← HT2.out]; exact ⟨V3, (show RR w0 _ g _ c0 b at3 row3 op3 base3 only3 text3 V3 l3 from by repeat (first | exact H3.out | exact H3.out.drewN _ | exact (H3.out.drewN _).drewN _ | (with_reducible first | apply RR.drew | apply RR.set1 | apply RR.set2 | apply RR.set3 | apply RR.set4 | apply RR.set5 | apply RR.set6)))⟩⟩
    · have d1 : decide (at3 < (b.length : Int)) = false := decide_eq_false c1
      have HT : (⟨at3, row3, op3, base3, only3, text3, l3⟩ : RSt) = textsR b (⟨at_, row, op, base, only, text, l⟩ : RSt) := by
        have h_ := HX.out.2.1
        rw [HR.out]
        cases gk with
        | zero => exact h_
        | succ m => simp only [rowsR] at h_; rwa [if_neg (fun h => c1 h.1)] at h_
      have HT2 := Aside0.mk HT
      clear HT HX
      clear c1
      go_wp2
      go_quiet ((go_at_call 25; (with_reducible refine Calls.quiet_of (mark_calls _ g _ c0 b at3 row3 op3 base3 only3 text3 V3 (by first | exact H3.out.q | exact H3.out.q.drewN _ | exact (H3.out.q.drewN _).drewN _) at3 (by omega) (by omega)))))
      go_wp2
      first | rw [Exit.noGoto_ret] | rw [Exit.noGoto_normal] | skip
      first | go_end0 | ((try simp only [Exit.inBlock, Exit.then]); refine bodyPost_ret (results_none rfl _ _ _) rfl ?_)
      exact ⟨rfl, by rw [← HT2.out]; exact ⟨V3, (show RR w0 _ g _ c0 b at3 row3 op3 base3 only3 text3 V3 l3 from by repeat (first | exact H3.out | exact H3.out.drewN _ | exact (H3.out.drewN _).drewN _ | (with_reducible first | apply RR.drew | apply RR.set1 | apply RR.set2 | apply RR.set3 | apply RR.set4 | apply RR.set5 | apply RR.set6)))⟩⟩

end Go.Proofs.Ythoogadfhopkfaa.Rf
