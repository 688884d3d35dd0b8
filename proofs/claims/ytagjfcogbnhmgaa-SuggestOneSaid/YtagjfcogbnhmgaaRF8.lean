/- The reference's scanner: words. -/
import Derived.Test.YtagjfcogbnhmgaaRF6
namespace Go.Proofs.Ytagjfcogbnhmgaa.Rf
open Go.RowKit Go.Proofs.Ytagjfcogbnhmgaa.Q Go.Proofs.YtagjfcogbnhmgaaW.PrintWords Go.Proofs.YtagjfcogbnhmgaaW.PrintLast Go.Proofs.YtagjfcogbnhmgaaW.PrintMore Go.Proofs.Ytagjfcogbnhmgaa.Sc Go.Proofs.Ytagjfcogbnhmgaa.Pure
attribute [local go_sem] max2_int min2_int max_two min_two max_three min_three max_four min_four
set_option linter.unusedVariables false
set_option linter.unusedSimpArgs false
set_option maxHeartbeats 1000000
set_option maxRecDepth 100000

theorem headR_le (b : List Int) (op i : Int) (h0 : 0 ≤ i) (h1 : i < (b.length : Int)) : 0 ≤ headR b op i ∧ headR b op i ≤ 2 := by
  have hJ : headJ b i = i + 1 ∨ headJ b i = i + 2 := by unfold headJ; split <;> simp
  unfold headR
  repeat' split
  all_goals omega

theorem word_calls (w0 W : World) (g : Nat) (A0 : Option Addr) (c0 : Nat) (b : List Int) (at_ row op base : Int) (only : Bool) (text : Int) (V : Value) (l : List S48) (hs : RR w0 W g A0 c0 b at_ row op base only text V l) (hB : Byt b) (b0 : -1 ≤ base) (b1 : base ≤ 16384) (h0 : 0 ≤ at_) (h1 : at_ < (b.length : Int)) (r0 : 0 ≤ row) (r1 : row ≤ at_) (hn : (l.length : Int) ≤ 16384) (o0 : 0 ≤ op) (o1 : op ≤ 16384) :
    Calls Try.prog 13 #[.pointer (some ⟨g, 0, none⟩)] W fun e w' => e = .returned (.tuple #[]) ∧ RS w0 w' g A0 c0 b (wordS b (⟨at_, row, op, base, only, text, l⟩ : RSt)) := by
  have H := Aside0.mk hs
  have hc0 := hs.q.cell0
  have hc1 := hs.q.cell1
  have hc2 := hs.q.cell2
  have hc3 := hs.q.cell3
  have hc4 := hs.q.cell4
  have hc5 := hs.q.cell5
  have hc6 := hs.q.cell6
  have hc7 := hs.q.cell7
  have hf1 := blk_frozen hs.q.blk 1
  have hf2 := blk_frozen hs.q.blk 2
  have hf3 := blk_frozen hs.q.blk 3
  have hf4 := blk_frozen hs.q.blk 4
  have hf5 := blk_frozen hs.q.blk 5
  have hf6 := blk_frozen hs.q.blk 6
  have hf7 := blk_frozen hs.q.blk 7
  have hl := hs.q.len
  clear hs
  have HB := Aside0.mk hB
  clear hB
  obtain ⟨i0, hi0, _, hsz, _⟩ := info_parts (P := Try.prog) info5
  obtain ⟨A1, hcut1, hA1, hcap1⟩ := print_drop_of (P := Try.prog) (Value.int .u8) (0 : Int) 23 5 .i64 Try.underlying23 hi0 hsz A0 c0 b at_ (by omega) (by omega) H.out.q.cap
  have CC1 : Aside0 (∀ n, Kd.C (Kd.int .u8) (W.drewN n) A1 (b.drop (at_).toNat).length (b.drop (at_).toNat)) := ⟨fun n => Kd.C_of_reads (h1 := fun _ => rfl) (hA1 _ (Kd.reads_of_C (H.out.q.drewN n).C))⟩
  have hll1 : (b.drop (at_).toNat).length ≠ 0 := by rw [List.length_drop]; omega
  have hf1 := nx_fine (b.drop (at_).toNat) (HB.out.drop _) hll1
  have hlq1 : (b.drop (at_).toNat).length = b.length - (at_).toNat := List.length_drop
  have HY1 := Aside0.mk (And.intro (HB.out.drop (at_).toNat) (show ((b.drop (at_).toNat).length : Int) ≤ 16384 by omega))
  have r01 := hf1.1
  have r11 := hf1.2.1
  have r21 : (nx (b.drop (at_).toNat)).2 + at_ ≤ (b.length : Int) := by have := hf1.2.2.1; omega
  have r31 := hf1.2.2.2.1
  have r41 := hf1.2.2.2.2.1
  clear hf1 hlq1 hA1 hll1
  obtain ⟨ad, ea, hx⟩ := Kd.at_int H.out.q.C (at_) h0 h1
  try cases ea
  have q1 : (0 ≤ at_) = True := eq_true (by omega)
  have q2 : (at_ < (b.length : Int)) = True := eq_true (by omega)
  have hb_ := upto_le (n := (b.length : Int)) (i := at_ + 1) (p := fun j => name (rd b j) || (false && rd b j == 33)) (by omega)
  have n0 : at_ + 1 ≤ namesR b (at_ + 1) false := hb_.1
  have n1_ : namesR b (at_ + 1) false ≤ (b.length : Int) := hb_.2
  have hb_ := upto_le (n := (b.length : Int)) (i := at_ + 1) (p := fun j => name (rd b j) || (true && rd b j == 33)) (by omega)
  have m0 : at_ + 1 ≤ namesR b (at_ + 1) true := hb_.1
  have m1 : namesR b (at_ + 1) true ≤ (b.length : Int) := hb_.2
  have hb_ := upto_le (n := (b.length : Int)) (i := at_) (p := fun j => brk b j == 0) (by omega)
  have e0 : at_ ≤ line b at_ := hb_.1
  have e1 : line b at_ ≤ (b.length : Int) := hb_.2
  clear hb_
  have HW := Aside0.mk (show wordS b (⟨at_, row, op, base, only, text, l⟩ : RSt) = if rd b at_ = 45 ∧ op = 0 ∧ only = true ∧ spc b (at_ + 1) = true then addR 5 (at_ + 1) (⟨at_, row, op, base, only, text, l⟩ : RSt) else if colon b op at_ = true then addR 6 (at_ + 1) (⟨at_, row, op, base, only, text, l⟩ : RSt) else if rd b at_ = 38 ∧ namesR b (at_ + 1) false > at_ + 1 then addR 12 (namesR b (at_ + 1) false) (⟨at_, row, op, base, only, text, l⟩ : RSt) else if rd b at_ = 42 ∧ namesR b (at_ + 1) false > at_ + 1 then addR 13 (namesR b (at_ + 1) false) (⟨at_, row, op, base, only, text, l⟩ : RSt) else if rd b at_ = 33 then addR 14 (namesR b (at_ + 1) true) (⟨at_, row, op, base, only, text, l⟩ : RSt) else if rd b at_ = 39 then addR 16 (singleR b (at_ + 1) (line b at_)) (⟨at_, row, op, base, only, text, l⟩ : RSt) else if rd b at_ = 34 then addR 17 (mn (doubleR b (at_ + 1) (line b at_)) (line b at_)) (⟨at_, row, op, base, only, text, l⟩ : RSt) else if 0 < headR b op at_ then addR 18 (at_ + headR b op at_) ⟨at_, row, op, base, only, if base < 0 then at_ - row - 1 else base, l⟩ else if (nx (b.drop at_.toNat)).1 < 0 then addR 22 (at_ + 1) (⟨at_, row, op, base, only, text, l⟩ : RSt) else addR 15 (plainR b op at_) (⟨at_, row, op, base, only, text, l⟩ : RSt) from rfl)
  have HC1 := Aside0.mk hcap1
  clear hcap1
  generalize hys1 : b.drop (at_).toNat = ys1 at *
  have HYS1 := Aside0.mk hys1
  clear hys1
  have HR0 := Aside0.mk (headR_le b op at_ h0 h1)
  have hr0 := HR0.out.1
  have hr1 := HR0.out.2
  clear HR0
  go_enter Try.func13, Try.ntmps13
  go_wp2
  go_quiet (fail)
  go_upto_region 5 with (first | (go_at_call 24; (with_reducible refine (next_calls _ A1 _ _ (CC1.out _) HC1.out HY1.out.1 HY1.out.2).mono ?_); rintro e w1 ⟨rfl, n1, rfl⟩) | (go_at_call 25; (with_reducible refine (namesF_calls _ g _ c0 b at_ row op base only text V (by first | exact H.out.q | exact H.out.q.drewN _ | exact (H.out.q.drewN _).drewN _) _ (by omega) (by omega)).mono ?_); rintro e w1 ⟨rfl, n1, rfl⟩))
  go_cut [39] (fun v39 wc => v39 = .bool ((rd b at_ == 45) && ((op == 0) && (only && spc b (at_ + 1)))) ∧ Aside0 (∃ n, wc = W.drewN n))
  case first =>
    by_cases a1 : rd b at_ = 45
    · have a2 : (rd b at_ == 45) = true := beq_iff_eq.mpr a1
      clear a1
      by_cases a3 : op = 0
      · have a4 : (op == 0) = true := beq_iff_eq.mpr a3
        clear a3
        rcases (by cases only <;> simp : only = true ∨ only = false) with a5 | a5
        · go_wp2_with (first | (go_at_call 18; (with_reducible refine (ended_calls _ g _ c0 b at_ row op base only text V (by first | exact H.out.q | exact H.out.q.drewN _ | exact (H.out.q.drewN _).drewN _) _ (by omega)).mono ?_); rintro e w1 ⟨rfl, n1, rfl⟩))
          go_meet
          case rel => exact ⟨by simp only [a2, a4, a5, Bool.true_and, Bool.false_and, Bool.and_true, Bool.and_false, gt_iff_lt], ⟨by repeat (first | exact dr0 _ | refine dr1 ?_ _)⟩⟩
        · go_wp2_with (first | (go_at_call 18; (with_reducible refine (ended_calls _ g _ c0 b at_ row op base only text V (by first | exact H.out.q | exact H.out.q.drewN _ | exact (H.out.q.drewN _).drewN _) _ (by omega)).mono ?_); rintro e w1 ⟨rfl, n1, rfl⟩))
          go_meet
          case rel => exact ⟨by simp only [a2, a4, a5, Bool.true_and, Bool.false_and, Bool.and_true, Bool.and_false, gt_iff_lt], ⟨by repeat (first | exact dr0 _ | refine dr1 ?_ _)⟩⟩
      · have a4 : (op == 0) = false := beq_eq_false_iff_ne.mpr a3
        go_wp2_with (first | (go_at_call 18; (with_reducible refine (ended_calls _ g _ c0 b at_ row op base only text V (by first | exact H.out.q | exact H.out.q.drewN _ | exact (H.out.q.drewN _).drewN _) _ (by omega)).mono ?_); rintro e w1 ⟨rfl, n1, rfl⟩))
        go_meet
        case rel => exact ⟨by simp only [a2, a4, Bool.true_and, Bool.false_and, Bool.and_true, Bool.and_false, gt_iff_lt], ⟨by repeat (first | exact dr0 _ | refine dr1 ?_ _)⟩⟩
    · have a2 : (rd b at_ == 45) = false := beq_eq_false_iff_ne.mpr a1
      go_wp2_with (first | (go_at_call 18; (with_reducible refine (ended_calls _ g _ c0 b at_ row op base only text V (by first | exact H.out.q | exact H.out.q.drewN _ | exact (H.out.q.drewN _).drewN _) _ (by omega)).mono ?_); rintro e w1 ⟨rfl, n1, rfl⟩))
      go_meet
      case rel => exact ⟨by simp only [a2, Bool.true_and, Bool.false_and, Bool.and_true, Bool.and_false, gt_iff_lt], ⟨by repeat (first | exact dr0 _ | refine dr1 ?_ _)⟩⟩
  case rest =>
    obtain ⟨rfl, ⟨n5, rfl⟩⟩ := hcut
    by_cases d : rd b at_ = 45 ∧ op = 0 ∧ only = true ∧ spc b (at_ + 1) = true
    · have hd : ((rd b at_ == 45) && ((op == 0) && (only && spc b (at_ + 1)))) = true := by simp only [d.1, d.2.1, d.2.2.1, d.2.2.2, Bool.and_true, beq_self_eq_true]
      rw [hd]
      clear hd
      have hW := HW.out
      clear HW
      rw [if_pos d] at hW
      have HW := Aside0.mk hW
      clear hW
      clear d
      go_wp2_with (first | (go_at_call 10; (with_reducible refine (add_calls w0 _ g _ c0 b at_ row op base only text V l (by repeat (first | exact H.out | exact H.out.drewN _ | exact (H.out.drewN _).drewN _ | (with_reducible first | apply RR.drew | apply RR.set1 | apply RR.set2 | apply RR.set3 | apply RR.set4 | apply RR.set5 | apply RR.set6))) _ _ (by omega) (by omega) (by omega) (by omega)).mono ?_); rintro e w2 ⟨rfl, V5, h2⟩; have H5 := Aside0.mk h2; clear h2))
      go_wp2
      first | rw [Exit.noGoto_ret] | rw [Exit.noGoto_normal] | skip
      first | go_end0 | ((try simp only [Exit.inBlock, Exit.then]); refine bodyPost_ret (results_none rfl _ _ _) rfl ?_)
      exact ⟨rfl, by rw [HW.out]; exact ⟨V5, (show RR w0 _ g _ c0 b (at_ + 1) row (op) (adBase 5 at_ row base) (adOnly 5 only) (text) V5 (l ++ [⟨5, at_, at_ + 1⟩]) from by repeat (first | exact H5.out | exact H5.out.drewN _ | exact (H5.out.drewN _).drewN _ | (with_reducible first | apply RR.drew | apply RR.set1 | apply RR.set2 | apply RR.set3 | apply RR.set4 | apply RR.set5 | apply RR.set6)))⟩⟩
    · have hd : ((rd b at_ == 45) && ((op == 0) && (only && spc b (at_ + 1)))) = false := by
        rw [Bool.eq_false_iff]
        intro h_
        simp only [Bool.and_eq_true, beq_iff_eq] at h_
        exact d h_
      rw [hd]
      clear hd
      have hW := HW.out
      clear HW
      rw [if_neg d] at hW
      have HW := Aside0.mk hW
      clear hW
      clear d
      by_cases d : colon b op at_ = true
      · have hW := HW.out
        clear HW
        rw [if_pos d] at hW
        have HW := Aside0.mk hW
        clear hW
        go_wp2_with (first | (go_at_call 26; (with_reducible refine (colon_calls _ g _ c0 b at_ row op base only text V (by first | exact H.out.q | exact H.out.q.drewN _ | exact (H.out.q.drewN _).drewN _) _ (by omega) (by omega)).mono ?_); rintro e w1 ⟨rfl, n1, rfl⟩) | (go_at_call 10; (with_reducible refine (add_calls w0 _ g _ c0 b at_ row op base only text V l (by repeat (first | exact H.out | exact H.out.drewN _ | exact (H.out.drewN _).drewN _ | (with_reducible first | apply RR.drew | apply RR.set1 | apply RR.set2 | apply RR.set3 | apply RR.set4 | apply RR.set5 | apply RR.set6))) _ _ (by omega) (by omega) (by omega) (by omega)).mono ?_); rintro e w2 ⟨rfl, V5, h2⟩; have H5 := Aside0.mk h2; clear h2))
        go_wp2
        first | rw [Exit.noGoto_ret] | rw [Exit.noGoto_normal] | skip
        first | go_end0 | ((try simp only [Exit.inBlock, Exit.then]); refine bodyPost_ret (results_none rfl _ _ _) rfl ?_)
        exact ⟨rfl, by rw [HW.out]; exact ⟨V5, (show RR w0 _ g _ c0 b (at_ + 1) row (op) (adBase 6 at_ row base) (adOnly 6 only) (text) V5 (l ++ [⟨6, at_, at_ + 1⟩]) from by repeat (first | exact H5.out | exact H5.out.drewN _ | exact (H5.out.drewN _).drewN _ | (with_reducible first | apply RR.drew | apply RR.set1 | apply RR.set2 | apply RR.set3 | apply RR.set4 | apply RR.set5 | apply RR.set6)))⟩⟩
      · replace d : colon b op at_ = false := by simpa using d
        have hW := HW.out
        clear HW
        rw [if_neg (by rw [d]; exact Bool.false_ne_true)] at hW
        have HW := Aside0.mk hW
        clear hW
        go_upto_region 9 with (first | (go_at_call 26; (with_reducible refine (colon_calls _ g _ c0 b at_ row op base only text V (by first | exact H.out.q | exact H.out.q.drewN _ | exact (H.out.q.drewN _).drewN _) _ (by omega) (by omega)).mono ?_); rintro e w1 ⟨rfl, n1, rfl⟩))
        go_cut [73] (fun v73 wc => v73 = .bool ((rd b at_ == 38) && decide (namesR b (at_ + 1) false > at_ + 1)) ∧ Aside0 (∃ n, wc = W.drewN n))
        case first =>
          by_cases a1 : rd b at_ = 38
          · have a2 : (rd b at_ == 38) = true := beq_iff_eq.mpr a1
            clear a1
            go_wp2_with (first | (go_at_call 18; (with_reducible refine (ended_calls _ g _ c0 b at_ row op base only text V (by first | exact H.out.q | exact H.out.q.drewN _ | exact (H.out.q.drewN _).drewN _) _ (by omega)).mono ?_); rintro e w1 ⟨rfl, n1, rfl⟩))
            go_meet
            case rel => exact ⟨by simp only [a2, Bool.true_and, Bool.false_and, Bool.and_true, Bool.and_false, gt_iff_lt], ⟨by repeat (first | exact dr0 _ | refine dr1 ?_ _)⟩⟩
          · have a2 : (rd b at_ == 38) = false := beq_eq_false_iff_ne.mpr a1
            go_wp2_with (first | (go_at_call 18; (with_reducible refine (ended_calls _ g _ c0 b at_ row op base only text V (by first | exact H.out.q | exact H.out.q.drewN _ | exact (H.out.q.drewN _).drewN _) _ (by omega)).mono ?_); rintro e w1 ⟨rfl, n1, rfl⟩))
            go_meet
            case rel => exact ⟨by simp only [a2, Bool.true_and, Bool.false_and, Bool.and_true, Bool.and_false, gt_iff_lt], ⟨by repeat (first | exact dr0 _ | refine dr1 ?_ _)⟩⟩
        case rest =>
          obtain ⟨rfl, ⟨n73, rfl⟩⟩ := hcut
          by_cases d38 : rd b at_ = 38 ∧ namesR b (at_ + 1) false > at_ + 1
          · have hd : ((rd b at_ == 38) && decide (namesR b (at_ + 1) false > at_ + 1)) = true := by simp only [d38.1, d38.2, Bool.and_true, beq_self_eq_true, decide_true]
            rw [hd]
            clear hd
            have hW := HW.out
            clear HW
            rw [if_pos d38] at hW
            have HW := Aside0.mk hW
            clear hW
            clear d38
            go_wp2_with (first | (go_at_call 10; (with_reducible refine (add_calls w0 _ g _ c0 b at_ row op base only text V l (by repeat (first | exact H.out | exact H.out.drewN _ | exact (H.out.drewN _).drewN _ | (with_reducible first | apply RR.drew | apply RR.set1 | apply RR.set2 | apply RR.set3 | apply RR.set4 | apply RR.set5 | apply RR.set6))) _ _ (by omega) (by omega) (by omega) (by omega)).mono ?_); rintro e w2 ⟨rfl, V5, h2⟩; have H5 := Aside0.mk h2; clear h2))
            go_wp2
            first | rw [Exit.noGoto_ret] | rw [Exit.noGoto_normal] | skip
            first | go_end0 | ((try simp only [Exit.inBlock, Exit.then]); refine bodyPost_ret (results_none rfl _ _ _) rfl ?_)
            exact ⟨rfl, by rw [HW.out]; exact ⟨V5, (show RR w0 _ g _ c0 b (namesR b (at_ + 1) false) row (op) (adBase 12 at_ row base) (adOnly 12 only) (text) V5 (l ++ [⟨12, at_, namesR b (at_ + 1) false⟩]) from by repeat (first | exact H5.out | exact H5.out.drewN _ | exact (H5.out.drewN _).drewN _ | (with_reducible first | apply RR.drew | apply RR.set1 | apply RR.set2 | apply RR.set3 | apply RR.set4 | apply RR.set5 | apply RR.set6)))⟩⟩
          · have hd : ((rd b at_ == 38) && decide (namesR b (at_ + 1) false > at_ + 1)) = false := by
              rw [Bool.eq_false_iff]
              intro h_
              simp only [Bool.and_eq_true, beq_iff_eq, decide_eq_true_eq] at h_
              exact d38 h_
            rw [hd]
            clear hd
            have hW := HW.out
            clear HW
            rw [if_neg d38] at hW
            have HW := Aside0.mk hW
            clear hW
            clear d38
            go_upto_region 11 with (fail)
            go_cut [85] (fun v85 wc => v85 = .bool ((rd b at_ == 42) && decide (namesR b (at_ + 1) false > at_ + 1)) ∧ Aside0 (∃ n, wc = W.drewN n))
            case first =>
              by_cases a1 : rd b at_ = 42
              · have a2 : (rd b at_ == 42) = true := beq_iff_eq.mpr a1
                clear a1
                go_wp2_with (first | (go_at_call 18; (with_reducible refine (ended_calls _ g _ c0 b at_ row op base only text V (by first | exact H.out.q | exact H.out.q.drewN _ | exact (H.out.q.drewN _).drewN _) _ (by omega)).mono ?_); rintro e w1 ⟨rfl, n1, rfl⟩))
                go_meet
                case rel => exact ⟨by simp only [a2, Bool.true_and, Bool.false_and, Bool.and_true, Bool.and_false, gt_iff_lt], ⟨by repeat (first | exact dr0 _ | refine dr1 ?_ _)⟩⟩
              · have a2 : (rd b at_ == 42) = false := beq_eq_false_iff_ne.mpr a1
                go_wp2_with (first | (go_at_call 18; (with_reducible refine (ended_calls _ g _ c0 b at_ row op base only text V (by first | exact H.out.q | exact H.out.q.drewN _ | exact (H.out.q.drewN _).drewN _) _ (by omega)).mono ?_); rintro e w1 ⟨rfl, n1, rfl⟩))
                go_meet
                case rel => exact ⟨by simp only [a2, Bool.true_and, Bool.false_and, Bool.and_true, Bool.and_false, gt_iff_lt], ⟨by repeat (first | exact dr0 _ | refine dr1 ?_ _)⟩⟩
            case rest =>
              obtain ⟨rfl, ⟨n85, rfl⟩⟩ := hcut
              by_cases d42 : rd b at_ = 42 ∧ namesR b (at_ + 1) false > at_ + 1
              · have hd : ((rd b at_ == 42) && decide (namesR b (at_ + 1) false > at_ + 1)) = true := by simp only [d42.1, d42.2, Bool.and_true, beq_self_eq_true, decide_true]
                rw [hd]
                clear hd
                have hW := HW.out
                clear HW
                rw [if_pos d42] at hW
                have HW := Aside0.mk hW
                clear hW
                clear d42
                go_wp2_with (first | (go_at_call 10; (with_reducible refine (add_calls w0 _ g _ c0 b at_ row op base only text V l (by repeat (first | exact H.out | exact H.out.drewN _ | exact (H.out.drewN _).drewN _ | (with_reducible first | apply RR.drew | apply RR.set1 | apply RR.set2 | apply RR.set3 | apply RR.set4 | apply RR.set5 | apply RR.set6))) _ _ (by omega) (by omega) (by omega) (by omega)).mono ?_); rintro e w2 ⟨rfl, V5, h2⟩; have H5 := Aside0.mk h2; clear h2))
                go_wp2
                first | rw [Exit.noGoto_ret] | rw [Exit.noGoto_normal] | skip
                first | go_end0 | ((try simp only [Exit.inBlock, Exit.then]); refine bodyPost_ret (results_none rfl _ _ _) rfl ?_)
                exact ⟨rfl, by rw [HW.out]; exact ⟨V5, (show RR w0 _ g _ c0 b (namesR b (at_ + 1) false) row (op) (adBase 13 at_ row base) (adOnly 13 only) (text) V5 (l ++ [⟨13, at_, namesR b (at_ + 1) false⟩]) from by repeat (first | exact H5.out | exact H5.out.drewN _ | exact (H5.out.drewN _).drewN _ | (with_reducible first | apply RR.drew | apply RR.set1 | apply RR.set2 | apply RR.set3 | apply RR.set4 | apply RR.set5 | apply RR.set6)))⟩⟩
              · have hd : ((rd b at_ == 42) && decide (namesR b (at_ + 1) false > at_ + 1)) = false := by
                  rw [Bool.eq_false_iff]
                  intro h_
                  simp only [Bool.and_eq_true, beq_iff_eq, decide_eq_true_eq] at h_
                  exact d42 h_
                rw [hd]
                clear hd
                have hW := HW.out
                clear HW
                rw [if_neg d42] at hW
                have HW := Aside0.mk hW
                clear hW
                clear d42
                by_cases d33 : rd b at_ = 33
                · have g33 : (rd b at_ == 33) = true := beq_iff_eq.mpr d33
                  have hW := HW.out
                  clear HW
                  rw [if_pos d33] at hW
                  have HW := Aside0.mk hW
                  clear hW
                  clear d33
                  go_wp2_with (first | (go_at_call 25; (with_reducible refine (namesT_calls _ g _ c0 b at_ row op base only text V (by first | exact H.out.q | exact H.out.q.drewN _ | exact (H.out.q.drewN _).drewN _) _ (by omega) (by omega)).mono ?_); rintro e w1 ⟨rfl, n1, rfl⟩) | (go_at_call 10; (with_reducible refine (add_calls w0 _ g _ c0 b at_ row op base only text V l (by repeat (first | exact H.out | exact H.out.drewN _ | exact (H.out.drewN _).drewN _ | (with_reducible first | apply RR.drew | apply RR.set1 | apply RR.set2 | apply RR.set3 | apply RR.set4 | apply RR.set5 | apply RR.set6))) _ _ (by omega) (by omega) (by omega) (by omega)).mono ?_); rintro e w2 ⟨rfl, V5, h2⟩; have H5 := Aside0.mk h2; clear h2))
                  go_wp2
                  first | rw [Exit.noGoto_ret] | rw [Exit.noGoto_normal] | skip
                  first | go_end0 | ((try simp only [Exit.inBlock, Exit.then]); refine bodyPost_ret (results_none rfl _ _ _) rfl ?_)
                  exact ⟨rfl, by rw [HW.out]; exact ⟨V5, (show RR w0 _ g _ c0 b (namesR b (at_ + 1) true) row (op) (adBase 14 at_ row base) (adOnly 14 only) (text) V5 (l ++ [⟨14, at_, namesR b (at_ + 1) true⟩]) from by repeat (first | exact H5.out | exact H5.out.drewN _ | exact (H5.out.drewN _).drewN _ | (with_reducible first | apply RR.drew | apply RR.set1 | apply RR.set2 | apply RR.set3 | apply RR.set4 | apply RR.set5 | apply RR.set6)))⟩⟩
                · have g33 : (rd b at_ == 33) = false := beq_eq_false_iff_ne.mpr d33
                  have hW := HW.out
                  clear HW
                  rw [if_neg d33] at hW
                  have HW := Aside0.mk hW
                  clear hW
                  clear d33
                  by_cases d39 : rd b at_ = 39
                  · have g39 : (rd b at_ == 39) = true := beq_iff_eq.mpr d39
                    have hW := HW.out
                    clear HW
                    rw [if_pos d39] at hW
                    have HW := Aside0.mk hW
                    clear hW
                    clear d39
                    go_wp2_with (first | (go_at_call 23; (with_reducible refine (rowEnd_calls _ g _ c0 b at_ row op base only text V (by first | exact H.out.q | exact H.out.q.drewN _ | exact (H.out.q.drewN _).drewN _) _ (by omega) (by omega)).mono ?_); rintro e w1 ⟨rfl, n1, rfl⟩) | (go_at_call 27; (with_reducible refine (single_calls _ g _ c0 b at_ row op base only text V (by first | exact H.out.q | exact H.out.q.drewN _ | exact (H.out.q.drewN _).drewN _) _ _ (by omega) (by omega)).mono ?_); rintro e w1 ⟨rfl, n1, rfl⟩) | (go_at_call 10; (with_reducible refine (add_calls w0 _ g _ c0 b at_ row op base only text V l (by repeat (first | exact H.out | exact H.out.drewN _ | exact (H.out.drewN _).drewN _ | (with_reducible first | apply RR.drew | apply RR.set1 | apply RR.set2 | apply RR.set3 | apply RR.set4 | apply RR.set5 | apply RR.set6))) _ _ (by omega) (by omega) (by omega) (by omega)).mono ?_); rintro e w2 ⟨rfl, V5, h2⟩; have H5 := Aside0.mk h2; clear h2))
                    go_wp2
                    first | rw [Exit.noGoto_ret] | rw [Exit.noGoto_normal] | skip
                    first | go_end0 | ((try simp only [Exit.inBlock, Exit.then]); refine bodyPost_ret (results_none rfl _ _ _) rfl ?_)
                    exact ⟨rfl, by rw [HW.out]; exact ⟨V5, (show RR w0 _ g _ c0 b (singleR b (at_ + 1) (line b at_)) row (op) (adBase 16 at_ row base) (adOnly 16 only) (text) V5 (l ++ [⟨16, at_, singleR b (at_ + 1) (line b at_)⟩]) from by repeat (first | exact H5.out | exact H5.out.drewN _ | exact (H5.out.drewN _).drewN _ | (with_reducible first | apply RR.drew | apply RR.set1 | apply RR.set2 | apply RR.set3 | apply RR.set4 | apply RR.set5 | apply RR.set6)))⟩⟩
                  · have g39 : (rd b at_ == 39) = false := beq_eq_false_iff_ne.mpr d39
                    have hW := HW.out
                    clear HW
                    rw [if_neg d39] at hW
                    have HW := Aside0.mk hW
                    clear hW
                    clear d39
                    by_cases d34 : rd b at_ = 34
                    · have g34 : (rd b at_ == 34) = true := beq_iff_eq.mpr d34
                      have hW := HW.out
                      clear HW
                      rw [if_pos d34] at hW
                      have HW := Aside0.mk hW
                      clear hW
                      clear d34
                      by_cases o : line b at_ < doubleR b (at_ + 1) (line b at_)
                      · have o2 : decide (line b at_ < doubleR b (at_ + 1) (line b at_)) = true := decide_eq_true o
                        have hm : mn (doubleR b (at_ + 1) (line b at_)) (line b at_) = line b at_ := if_pos o
                        have hW := HW.out
                        clear HW
                        rw [hm] at hW
                        have HW := Aside0.mk hW
                        clear hW
                        clear hm
                        go_wp2_with (first | (go_at_call 23; (with_reducible refine (rowEnd_calls _ g _ c0 b at_ row op base only text V (by first | exact H.out.q | exact H.out.q.drewN _ | exact (H.out.q.drewN _).drewN _) _ (by omega) (by omega)).mono ?_); rintro e w1 ⟨rfl, n1, rfl⟩) | (go_at_call 28; (with_reducible refine (double_calls _ g _ c0 b at_ row op base only text V (by first | exact H.out.q | exact H.out.q.drewN _ | exact (H.out.q.drewN _).drewN _) _ _ (by omega) (by omega)).mono ?_); rintro e w1 ⟨rfl, n1, rfl⟩) | (go_at_call 10; (with_reducible refine (add_calls w0 _ g _ c0 b at_ row op base only text V l (by repeat (first | exact H.out | exact H.out.drewN _ | exact (H.out.drewN _).drewN _ | (with_reducible first | apply RR.drew | apply RR.set1 | apply RR.set2 | apply RR.set3 | apply RR.set4 | apply RR.set5 | apply RR.set6))) _ _ (by omega) (by omega) (by omega) (by omega)).mono ?_); rintro e w2 ⟨rfl, V5, h2⟩; have H5 := Aside0.mk h2; clear h2))
                        go_wp2
                        first | rw [Exit.noGoto_ret] | rw [Exit.noGoto_normal] | skip
                        first | go_end0 | ((try simp only [Exit.inBlock, Exit.then]); refine bodyPost_ret (results_none rfl _ _ _) rfl ?_)
                        exact ⟨rfl, by rw [HW.out]; exact ⟨V5, (show RR w0 _ g _ c0 b (line b at_) row (op) (adBase 17 at_ row base) (adOnly 17 only) (text) V5 (l ++ [⟨17, at_, line b at_⟩]) from by repeat (first | exact H5.out | exact H5.out.drewN _ | exact (H5.out.drewN _).drewN _ | (with_reducible first | apply RR.drew | apply RR.set1 | apply RR.set2 | apply RR.set3 | apply RR.set4 | apply RR.set5 | apply RR.set6)))⟩⟩
                      · have o2 : decide (line b at_ < doubleR b (at_ + 1) (line b at_)) = false := decide_eq_false o
                        have hm : mn (doubleR b (at_ + 1) (line b at_)) (line b at_) = doubleR b (at_ + 1) (line b at_) := if_neg o
                        have hW := HW.out
                        clear HW
                        rw [hm] at hW
                        have HW := Aside0.mk hW
                        clear hW
                        clear hm
                        go_wp2_with (first | (go_at_call 23; (with_reducible refine (rowEnd_calls _ g _ c0 b at_ row op base only text V (by first | exact H.out.q | exact H.out.q.drewN _ | exact (H.out.q.drewN _).drewN _) _ (by omega) (by omega)).mono ?_); rintro e w1 ⟨rfl, n1, rfl⟩) | (go_at_call 28; (with_reducible refine (double_calls _ g _ c0 b at_ row op base only text V (by first | exact H.out.q | exact H.out.q.drewN _ | exact (H.out.q.drewN _).drewN _) _ _ (by omega) (by omega)).mono ?_); rintro e w1 ⟨rfl, n1, rfl⟩) | (go_at_call 10; (with_reducible refine (add_calls w0 _ g _ c0 b at_ row op base only text V l (by repeat (first | exact H.out | exact H.out.drewN _ | exact (H.out.drewN _).drewN _ | (with_reducible first | apply RR.drew | apply RR.set1 | apply RR.set2 | apply RR.set3 | apply RR.set4 | apply RR.set5 | apply RR.set6))) _ _ (by omega) (by omega) (by omega) (by omega)).mono ?_); rintro e w2 ⟨rfl, V5, h2⟩; have H5 := Aside0.mk h2; clear h2))
                        go_wp2
                        first | rw [Exit.noGoto_ret] | rw [Exit.noGoto_normal] | skip
                        first | go_end0 | ((try simp only [Exit.inBlock, Exit.then]); refine bodyPost_ret (results_none rfl _ _ _) rfl ?_)
                        exact ⟨rfl, by rw [HW.out]; exact ⟨V5, (show RR w0 _ g _ c0 b (doubleR b (at_ + 1) (line b at_)) row (op) (adBase 17 at_ row base) (adOnly 17 only) (text) V5 (l ++ [⟨17, at_, doubleR b (at_ + 1) (line b at_)⟩]) from by repeat (first | exact H5.out | exact H5.out.drewN _ | exact (H5.out.drewN _).drewN _ | (with_reducible first | apply RR.drew | apply RR.set1 | apply RR.set2 | apply RR.set3 | apply RR.set4 | apply RR.set5 | apply RR.set6)))⟩⟩
                    · have g34 : (rd b at_ == 34) = false := beq_eq_false_iff_ne.mpr d34
                      have hW := HW.out
                      clear HW
                      rw [if_neg d34] at hW
                      have HW := Aside0.mk hW
                      clear hW
                      clear d34
                      by_cases d : 0 < headR b op at_
                      · have f3 : decide (headR b op at_ > 0) = true := decide_eq_true d
                        have hW := HW.out
                        clear HW
                        rw [if_pos d] at hW
                        have HW := Aside0.mk hW
                        clear hW
                        clear d
                        go_upto_region 20 with (first | (go_at_call 29; (with_reducible refine (head_calls _ g _ c0 b at_ row op base only text V (by first | exact H.out.q | exact H.out.q.drewN _ | exact (H.out.q.drewN _).drewN _) h0 h1).mono ?_); rintro e w1 ⟨rfl, n1, rfl⟩))
                        go_cut [] (fun wc => Aside0 (RR w0 wc g (some ad) c0 b at_ row op base only base V l))
                        case first =>
                          go_wp2
                          go_meet
                          case rel => exact ⟨by repeat (first | exact H.out | exact H.out.drewN _ | exact (H.out.drewN _).drewN _ | (with_reducible first | apply RR.drew | apply RR.set1 | apply RR.set2 | apply RR.set3 | apply RR.set4 | apply RR.set5 | apply RR.set6))⟩
                        case rest =>
                          have H2 := Aside0.mk hcut.out
                          clear hcut
                          clear hc0 hc1 hc2 hc3 hc4 hc5 hc6 hc7 hf1 hf2 hf3 hf4 hf5 hf6 hf7
                          have pc0 := H2.out.q.cell0
                          have pc1 := H2.out.q.cell1
                          have pc2 := H2.out.q.cell2
                          have pc3 := H2.out.q.cell3
                          have pc4 := H2.out.q.cell4
                          have pc5 := H2.out.q.cell5
                          have pc6 := H2.out.q.cell6
                          have pc7 := H2.out.q.cell7
                          have pf1 := blk_frozen H2.out.q.blk 1
                          have pf2 := blk_frozen H2.out.q.blk 2
                          have pf3 := blk_frozen H2.out.q.blk 3
                          have pf4 := blk_frozen H2.out.q.blk 4
                          have pf5 := blk_frozen H2.out.q.blk 5
                          have pf6 := blk_frozen H2.out.q.blk 6
                          have pf7 := blk_frozen H2.out.q.blk 7
                          by_cases c4 : base < 0
                          · have f4 : decide (base < 0) = true := decide_eq_true c4
                            have hW := HW.out
                            clear HW
                            rw [if_pos c4] at hW
                            have HW := Aside0.mk hW
                            clear hW
                            clear c4
                            go_upto_region 22 with (fail)
                            go_cut [] (fun wd => Aside0 (RR w0 wd g (some ad) c0 b at_ row op base only (at_ - row - 1) V l))
                            case first =>
                              go_wp2
                              go_meet
                              case rel => exact ⟨by repeat (first | exact H2.out | exact H2.out.drewN _ | exact (H2.out.drewN _).drewN _ | (with_reducible first | apply RR.drew | apply RR.set1 | apply RR.set2 | apply RR.set3 | apply RR.set4 | apply RR.set5 | apply RR.set6))⟩
                            case rest =>
                              have H3 := Aside0.mk hcut.out
                              clear hcut
                              clear pc0 pc1 pc2 pc3 pc4 pc5 pc6 pc7 pf1 pf2 pf3 pf4 pf5 pf6 pf7
                              have qc0 := H3.out.q.cell0
                              have qc1 := H3.out.q.cell1
                              have qc2 := H3.out.q.cell2
                              have qc3 := H3.out.q.cell3
                              have qc4 := H3.out.q.cell4
                              have qc5 := H3.out.q.cell5
                              have qc6 := H3.out.q.cell6
                              have qc7 := H3.out.q.cell7
                              have qf1 := blk_frozen H3.out.q.blk 1
                              have qf2 := blk_frozen H3.out.q.blk 2
                              have qf3 := blk_frozen H3.out.q.blk 3
                              have qf4 := blk_frozen H3.out.q.blk 4
                              have qf5 := blk_frozen H3.out.q.blk 5
                              have qf6 := blk_frozen H3.out.q.blk 6
                              have qf7 := blk_frozen H3.out.q.blk 7
                              go_wp2_with (first | (go_at_call 29; (with_reducible refine (head_calls _ g _ c0 b at_ row op base only (at_ - row - 1) V (by first | exact H3.out.q | exact H3.out.q.drewN _ | exact (H3.out.q.drewN _).drewN _) h0 h1).mono ?_); rintro e w1 ⟨rfl, n1, rfl⟩) | (go_at_call 10; (with_reducible refine (add_calls w0 _ g _ c0 b at_ row op base only (at_ - row - 1) V l (by repeat (first | exact H3.out | exact H3.out.drewN _ | exact (H3.out.drewN _).drewN _ | (with_reducible first | apply RR.drew | apply RR.set1 | apply RR.set2 | apply RR.set3 | apply RR.set4 | apply RR.set5 | apply RR.set6))) _ _ (by omega) (by omega) (by omega) (by omega)).mono ?_); rintro e w2 ⟨rfl, V5, h2⟩; have H5 := Aside0.mk h2; clear h2))
                              go_wp2
                              first | rw [Exit.noGoto_ret] | rw [Exit.noGoto_normal] | skip
                              first | go_end0 | ((try simp only [Exit.inBlock, Exit.then]); refine bodyPost_ret (results_none rfl _ _ _) rfl ?_)
                              exact ⟨rfl, by rw [HW.out]; exact ⟨V5, (show RR w0 _ g _ c0 b (at_ + headR b op at_) row (op) (adBase 18 at_ row base) (adOnly 18 only) (at_ - row - 1) V5 (l ++ [⟨18, at_, at_ + headR b op at_⟩]) from by repeat (first | exact H5.out | exact H5.out.drewN _ | exact (H5.out.drewN _).drewN _ | (with_reducible first | apply RR.drew | apply RR.set1 | apply RR.set2 | apply RR.set3 | apply RR.set4 | apply RR.set5 | apply RR.set6)))⟩⟩
                          · have f4 : decide (base < 0) = false := decide_eq_false c4
                            have hW := HW.out
                            clear HW
                            rw [if_neg c4] at hW
                            have HW := Aside0.mk hW
                            clear hW
                            clear c4
                            go_wp2_with (first | (go_at_call 29; (with_reducible refine (head_calls _ g _ c0 b at_ row op base only base V (by first | exact H2.out.q | exact H2.out.q.drewN _ | exact (H2.out.q.drewN _).drewN _) h0 h1).mono ?_); rintro e w1 ⟨rfl, n1, rfl⟩) | (go_at_call 10; (with_reducible refine (add_calls w0 _ g _ c0 b at_ row op base only base V l (by repeat (first | exact H2.out | exact H2.out.drewN _ | exact (H2.out.drewN _).drewN _ | (with_reducible first | apply RR.drew | apply RR.set1 | apply RR.set2 | apply RR.set3 | apply RR.set4 | apply RR.set5 | apply RR.set6))) _ _ (by omega) (by omega) (by omega) (by omega)).mono ?_); rintro e w2 ⟨rfl, V5, h2⟩; have H5 := Aside0.mk h2; clear h2))
                            go_wp2
                            first | rw [Exit.noGoto_ret] | rw [Exit.noGoto_normal] | skip
                            first | go_end0 | ((try simp only [Exit.inBlock, Exit.then]); refine bodyPost_ret (results_none rfl _ _ _) rfl ?_)
                            exact ⟨rfl, by rw [HW.out]; exact ⟨V5, (show RR w0 _ g _ c0 b (at_ + headR b op at_) row (op) (adBase 18 at_ row base) (adOnly 18 only) (base) V5 (l ++ [⟨18, at_, at_ + headR b op at_⟩]) from by repeat (first | exact H5.out | exact H5.out.drewN _ | exact (H5.out.drewN _).drewN _ | (with_reducible first | apply RR.drew | apply RR.set1 | apply RR.set2 | apply RR.set3 | apply RR.set4 | apply RR.set5 | apply RR.set6)))⟩⟩
                      · have f3 : decide (headR b op at_ > 0) = false := decide_eq_false d
                        have hW := HW.out
                        clear HW
                        rw [if_neg d] at hW
                        have HW := Aside0.mk hW
                        clear hW
                        clear d
                        by_cases d : (nx ys1).1 < 0
                        · have f4 : decide ((nx ys1).1 < 0) = true := decide_eq_true d
                          have hW := HW.out
                          clear HW
                          rw [if_pos d] at hW
                          have HW := Aside0.mk hW
                          clear hW
                          clear d
                          go_wp2_with (first | (go_at_call 29; (with_reducible refine (head_calls _ g _ c0 b at_ row op base only text V (by first | exact H.out.q | exact H.out.q.drewN _ | exact (H.out.q.drewN _).drewN _) h0 h1).mono ?_); rintro e w1 ⟨rfl, n1, rfl⟩) | (go_at_call 10; (with_reducible refine (add_calls w0 _ g _ c0 b at_ row op base only text V l (by repeat (first | exact H.out | exact H.out.drewN _ | exact (H.out.drewN _).drewN _ | (with_reducible first | apply RR.drew | apply RR.set1 | apply RR.set2 | apply RR.set3 | apply RR.set4 | apply RR.set5 | apply RR.set6))) _ _ (by omega) (by omega) (by omega) (by omega)).mono ?_); rintro e w2 ⟨rfl, V5, h2⟩; have H5 := Aside0.mk h2; clear h2))
                          go_wp2
                          first | rw [Exit.noGoto_ret] | rw [Exit.noGoto_normal] | skip
                          first | go_end0 | ((try simp only [Exit.inBlock, Exit.then]); refine bodyPost_ret (results_none rfl _ _ _) rfl ?_)
                          exact ⟨rfl, by rw [HW.out]; exact ⟨V5, (show RR w0 _ g _ c0 b (at_ + 1) row (op) (adBase 22 at_ row base) (adOnly 22 only) (text) V5 (l ++ [⟨22, at_, at_ + 1⟩]) from by repeat (first | exact H5.out | exact H5.out.drewN _ | exact (H5.out.drewN _).drewN _ | (with_reducible first | apply RR.drew | apply RR.set1 | apply RR.set2 | apply RR.set3 | apply RR.set4 | apply RR.set5 | apply RR.set6)))⟩⟩
                        · have f4 : decide ((nx ys1).1 < 0) = false := decide_eq_false d
                          have hW := HW.out
                          clear HW
                          rw [if_neg d] at hW
                          have HW := Aside0.mk hW
                          clear hW
                          clear d
                          go_wp2_with (first | (go_at_call 29; (with_reducible refine (head_calls _ g _ c0 b at_ row op base only text V (by first | exact H.out.q | exact H.out.q.drewN _ | exact (H.out.q.drewN _).drewN _) h0 h1).mono ?_); rintro e w1 ⟨rfl, n1, rfl⟩) | (go_at_call 30; (with_reducible refine (plain_calls _ g _ c0 b at_ row op base only text V (by first | exact H.out.q | exact H.out.q.drewN _ | exact (H.out.q.drewN _).drewN _) HB.out h0 h1).mono ?_); rintro e w1 ⟨rfl, n1, rfl⟩) | (go_at_call 10; (with_reducible refine (add_calls w0 _ g _ c0 b at_ row op base only text V l (by repeat (first | exact H.out | exact H.out.drewN _ | exact (H.out.drewN _).drewN _ | (with_reducible first | apply RR.drew | apply RR.set1 | apply RR.set2 | apply RR.set3 | apply RR.set4 | apply RR.set5 | apply RR.set6))) _ _ (by omega) (by omega) (by omega) (by omega)).mono ?_); rintro e w2 ⟨rfl, V5, h2⟩; have H5 := Aside0.mk h2; clear h2))
                          go_wp2
                          first | rw [Exit.noGoto_ret] | rw [Exit.noGoto_normal] | skip
                          first | go_end0 | ((try simp only [Exit.inBlock, Exit.then]); refine bodyPost_ret (results_none rfl _ _ _) rfl ?_)
                          exact ⟨rfl, by rw [HW.out]; exact ⟨V5, (show RR w0 _ g _ c0 b (plainR b op at_) row (op) (adBase 15 at_ row base) (adOnly 15 only) (text) V5 (l ++ [⟨15, at_, plainR b op at_⟩]) from by repeat (first | exact H5.out | exact H5.out.drewN _ | exact (H5.out.drewN _).drewN _ | (with_reducible first | apply RR.drew | apply RR.set1 | apply RR.set2 | apply RR.set3 | apply RR.set4 | apply RR.set5 | apply RR.set6)))⟩⟩

end Go.Proofs.Ytagjfcogbnhmgaa.Rf
