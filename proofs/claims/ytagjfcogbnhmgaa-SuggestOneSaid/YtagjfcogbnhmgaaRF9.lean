/- The reference's scanner: tokens that do not count. -/
import Derived.Test.YtagjfcogbnhmgaaRF7
import Derived.IntWalk
namespace Go.Proofs.Ytagjfcogbnhmgaa.Rf
open Go.RowKit Go.Proofs.Ytagjfcogbnhmgaa.Q Go.Proofs.YtagjfcogbnhmgaaW.PrintWords Go.Proofs.YtagjfcogbnhmgaaW.PrintLast Go.Proofs.YtagjfcogbnhmgaaW.PrintMore Go.Proofs.Ytagjfcogbnhmgaa.Sc Go.Proofs.Ytagjfcogbnhmgaa.Pure
attribute [local go_sem] max2_int min2_int max_two min_two max_three min_three max_four min_four
set_option linter.unusedVariables false
set_option linter.unusedSimpArgs false
set_option maxHeartbeats 1000000
set_option maxRecDepth 100000

theorem scspace_calls (w0 W : World) (g : Nat) (A0 : Option Addr) (c0 : Nat) (b : List Int) (at_ row op base : Int) (only : Bool) (text : Int) (V : Value) (l : List S48) (hs : RR w0 W g A0 c0 b at_ row op base only text V l) (h0 : 0 ≤ at_) (h1 : at_ < (b.length : Int)) (r0 : 0 ≤ row) (r1 : row ≤ at_) (hn : (l.length : Int) ≤ at_) (hf : at_ = row ∨ 0 < l.length) :
    Calls Try.prog 11 #[.pointer (some ⟨g, 0, none⟩)] W fun e w' => e = .returned (.bool (spaceS b (⟨at_, row, op, base, only, text, l⟩ : RSt)).isSome) ∧ RS w0 w' g A0 c0 b ((spaceS b (⟨at_, row, op, base, only, text, l⟩ : RSt)).getD (⟨at_, row, op, base, only, text, l⟩ : RSt)) := by
  have H := Aside0.mk hs
  have hc0 := hs.q.cell0
  have hc1 := hs.q.cell1
  have hc2 := hs.q.cell2
  have hc3 := hs.q.cell3
  have hc4 := hs.q.cell4
  have hc5 := hs.q.cell5
  have hc6 := hs.q.cell6
  have hc7 := hs.q.cell7
  have hf1 := blk_frozen hs.q.blk 1
  have hf2 := blk_frozen hs.q.blk 2
  have hf3 := blk_frozen hs.q.blk 3
  have hf4 := blk_frozen hs.q.blk 4
  have hf5 := blk_frozen hs.q.blk 5
  have hf6 := blk_frozen hs.q.blk 6
  have hf7 := blk_frozen hs.q.blk 7
  have hl := hs.q.len
  clear hs
  obtain ⟨A2, c2, rfl⟩ := Kd.R_slice H.out.r
  obtain ⟨ad, ea, hx⟩ := Kd.at_int H.out.q.C (at_) h0 h1
  try cases ea
  have q1 : (0 ≤ at_) = True := eq_true (by omega)
  have q2 : (at_ < (b.length : Int)) = True := eq_true (by omega)
  have bk := brk_range b at_
  have bk0 := bk.1
  have bk1 := bk.2
  clear bk
  have hb_ := upto_le (n := (b.length : Int)) (i := at_) (p := fun j => rd b j == 32) (by omega)
  have s0 : at_ ≤ spaces b at_ := hb_.1
  have s1 : spaces b at_ ≤ (b.length : Int) := hb_.2
  have hb_ := upto_le (n := (b.length : Int)) (i := at_) (p := fun j => Sc.blank (rd b j)) (by omega)
  have b0 : at_ ≤ blanks b at_ := hb_.1
  have b1 : blanks b at_ ≤ (b.length : Int) := hb_.2
  have hb_ := upto_le (n := (b.length : Int)) (i := at_) (p := fun j => brk b j == 0) (by omega)
  have e0 : at_ ≤ line b at_ := hb_.1
  have e1 : line b at_ ≤ (b.length : Int) := hb_.2
  clear hb_
  by_cases p : 0 < brk b at_
  · have p1 : decide (brk b at_ > 0) = true := decide_eq_true p
    have K6 : Aside0 (OkT b (⟨at_ + brk b at_, at_ + brk b at_, op, -1, true, text, l ++ [⟨1, at_, at_ + brk b at_⟩]⟩ : RSt)) := ⟨⟨by dsimp only; omega, Int.le_refl _, brk_le p, by simp only [List.length_append, List.length_singleton]; omega⟩⟩
    by_cases q : text ≥ -1
    · have q1 : decide (text ≥ -1) = true := decide_eq_true q
      have HS := Aside0.mk (show spaceS b (⟨at_, row, op, base, only, text, l⟩ : RSt) = some (textsR b (nextR (addR 1 (at_ + brk b at_) (⟨at_, row, op, base, only, text, l⟩ : RSt)))) by unfold spaceS; dsimp only; rw [if_pos p]; unfold breakR; rw [if_pos q])
      clear p q
      go_enter Try.func11, Try.ntmps11
      go_wp2
      go_quiet (fail)
      go_wp2_with (first | (go_at_call 20; (with_reducible refine (break_calls _ _ c0 b (by first | exact H.out.q.C | exact (H.out.q.drewN _).C | exact ((H.out.q.drewN _).drewN _).C) H.out.q.cap H.out.q.len _ (by omega) (by omega)).mono ?_); rintro e w1 ⟨rfl, n1, rfl⟩) | (go_at_call 10; (with_reducible refine (add_calls w0 _ g _ c0 b at_ row op base only text (.slice _ l.length c2) l (by repeat (first | exact H.out | exact H.out.drewN _ | exact (H.out.drewN _).drewN _ | (with_reducible first | apply RR.drew | apply RR.set1 | apply RR.set2 | apply RR.set3 | apply RR.set4 | apply RR.set5 | apply RR.set6))) _ _ (by omega) (by omega) (by omega) (by omega)).mono ?_); rintro e w2 ⟨rfl, V5, h2⟩; have H5 := Aside0.mk h2; have gc0 := h2.q.cell0; have gc1 := h2.q.cell1; have gc2 := h2.q.cell2; have gc3 := h2.q.cell3; have gc4 := h2.q.cell4; have gc5 := h2.q.cell5; have gc6 := h2.q.cell6; have gc7 := h2.q.cell7; have gf1 := blk_frozen h2.q.blk 1; have gf2 := blk_frozen h2.q.blk 2; have gf3 := blk_frozen h2.q.blk 3; have gf4 := blk_frozen h2.q.blk 4; have gf5 := blk_frozen h2.q.blk 5; have gf6 := blk_frozen h2.q.blk 6; have gf7 := blk_frozen h2.q.blk 7; clear h2) | (go_at_call 8; (with_reducible refine (scnext_calls w0 _ g _ c0 b _ _ _ _ _ _ _ _ (by repeat (first | exact H5.out | exact H5.out.drewN _ | exact (H5.out.drewN _).drewN _ | (with_reducible first | apply RR.drew | apply RR.set1 | apply RR.set2 | apply RR.set3 | apply RR.set4 | apply RR.set5 | apply RR.set6)))).mono ?_); rintro e w3 ⟨rfl, h3⟩; have H6 := Aside0.mk h3; clear h3) | (go_at_call 21; (with_reducible refine (texts_calls w0 _ g _ c0 b _ _ _ _ _ _ _ _ (by repeat (first | exact H6.out | exact H6.out.drewN _ | exact (H6.out.drewN _).drewN _ | (with_reducible first | apply RR.drew | apply RR.set1 | apply RR.set2 | apply RR.set3 | apply RR.set4 | apply RR.set5 | apply RR.set6))) K6.out).mono ?_); rintro e w4 ⟨rfl, h4⟩; have H7 := Aside0.mk h4; clear h4))
      first | go_ret | (go_wp2; go_ret)
      rw [HS.out]
      exact ⟨rfl, H7.out⟩
    · have q1 : decide (text ≥ -1) = false := decide_eq_false q
      have HS := Aside0.mk (show spaceS b (⟨at_, row, op, base, only, text, l⟩ : RSt) = some (nextR (addR 1 (at_ + brk b at_) (⟨at_, row, op, base, only, text, l⟩ : RSt))) by unfold spaceS; dsimp only; rw [if_pos p]; unfold breakR; rw [if_neg q])
      clear p q
      go_enter Try.func11, Try.ntmps11
      go_wp2
      go_quiet (fail)
      go_wp2_with (first | (go_at_call 20; (with_reducible refine (break_calls _ _ c0 b (by first | exact H.out.q.C | exact (H.out.q.drewN _).C | exact ((H.out.q.drewN _).drewN _).C) H.out.q.cap H.out.q.len _ (by omega) (by omega)).mono ?_); rintro e w1 ⟨rfl, n1, rfl⟩) | (go_at_call 10; (with_reducible refine (add_calls w0 _ g _ c0 b at_ row op base only text (.slice _ l.length c2) l (by repeat (first | exact H.out | exact H.out.drewN _ | exact (H.out.drewN _).drewN _ | (with_reducible first | apply RR.drew | apply RR.set1 | apply RR.set2 | apply RR.set3 | apply RR.set4 | apply RR.set5 | apply RR.set6))) _ _ (by omega) (by omega) (by omega) (by omega)).mono ?_); rintro e w2 ⟨rfl, V5, h2⟩; have H5 := Aside0.mk h2; have gc0 := h2.q.cell0; have gc1 := h2.q.cell1; have gc2 := h2.q.cell2; have gc3 := h2.q.cell3; have gc4 := h2.q.cell4; have gc5 := h2.q.cell5; have gc6 := h2.q.cell6; have gc7 := h2.q.cell7; have gf1 := blk_frozen h2.q.blk 1; have gf2 := blk_frozen h2.q.blk 2; have gf3 := blk_frozen h2.q.blk 3; have gf4 := blk_frozen h2.q.blk 4; have gf5 := blk_frozen h2.q.blk 5; have gf6 := blk_frozen h2.q.blk 6; have gf7 := blk_frozen h2.q.blk 7; clear h2) | (go_at_call 8; (with_reducible refine (scnext_calls w0 _ g _ c0 b _ _ _ _ _ _ _ _ (by repeat (first | exact H5.out | exact H5.out.drewN _ | exact (H5.out.drewN _).drewN _ | (with_reducible first | apply RR.drew | apply RR.set1 | apply RR.set2 | apply RR.set3 | apply RR.set4 | apply RR.set5 | apply RR.set6)))).mono ?_); rintro e w3 ⟨rfl, h3⟩; have H6 := Aside0.mk h3; clear h3))
      first | go_ret | (go_wp2; go_ret)
      rw [HS.out]
      exact ⟨rfl, V5, H6.out⟩
  · have p1 : decide (brk b at_ > 0) = false := decide_eq_false p
    by_cases a : at_ = row
    · by_cases c : rd b at_ = 32
      · have a1 : (at_ == row) = true := beq_iff_eq.mpr a
        have a2 : (rd b at_ == 32) = true := beq_iff_eq.mpr c
        have HS := Aside0.mk (show spaceS b (⟨at_, row, op, base, only, text, l⟩ : RSt) = some (addR 2 (spaces b at_) (⟨at_, row, op, base, only, text, l⟩ : RSt)) by unfold spaceS; dsimp only; rw [if_neg p, if_pos ⟨a, c⟩])
        clear p a c
        go_enter Try.func11, Try.ntmps11
        go_wp2
        go_quiet (fail)
        go_wp2_with (first | (go_at_call 20; (with_reducible refine (break_calls _ _ c0 b (by first | exact H.out.q.C | exact (H.out.q.drewN _).C | exact ((H.out.q.drewN _).drewN _).C) H.out.q.cap H.out.q.len _ (by omega) (by omega)).mono ?_); rintro e w1 ⟨rfl, n1, rfl⟩))
        go_quiet (fail)
        go_upto_block 0 with (first | (go_at_call 20; (with_reducible refine (break_calls _ _ c0 b (by first | exact H.out.q.C | exact (H.out.q.drewN _).C | exact ((H.out.q.drewN _).drewN _).C) H.out.q.cap H.out.q.len _ (by omega) (by omega)).mono ?_); rintro e w1 ⟨rfl, n1, rfl⟩) | (go_at_call 22; (with_reducible refine (rblank_calls _ _).mono ?_); rintro e w1 ⟨rfl, n1, rfl⟩))
        go_cut [4] (fun v4 wc => v4 = .int .i64 (spaces b at_) ∧ Aside0 (∃ n, wc = W.drewN n))
        case first =>
          go_wp2
          go_loopg [4] ((b.length : Int) - at_).toNat (fun kq v w' => ∃ x : Int, v = .int .i64 x ∧ Aside0 (at_ ≤ x ∧ x ≤ (b.length : Int) ∧ upto (b.length : Int) (fun x => rd b x == 32) x = spaces b at_ ∧ kq = ((b.length : Int) - x).toNat) ∧ Aside0 (∃ n, w' = W.drewN n))
          case atStart => exact ⟨_, rfl, ⟨⟨by omega, by omega, rfl, rfl⟩⟩, ⟨by repeat (first | exact dr0 _ | refine dr1 ?_ _)⟩⟩
          case round =>
            obtain ⟨x, rfl, HX9, ⟨n9, rfl⟩⟩ := hrel
            have hx0 := HX9.out.1
            have hx1 := HX9.out.2.1
            by_cases l9 : x < (b.length : Int)
            · have d9 : decide (x < (b.length : Int)) = true := decide_eq_true l9
              obtain ⟨ad9, ea9, hx9⟩ := Kd.at_int H.out.q.C (x) (by omega) l9
              try cases ea9
              have q19 : (0 ≤ x) = True := eq_true (by omega)
              have q29 : (x < (b.length : Int)) = True := eq_true (by omega)
              by_cases p9 : (rd b x == 32) = true
              · have PX := Aside0.mk p9
                have L9 := Aside0.mk l9
                go_wp2
                go_roundg ((b.length : Int) - (x + 1)).toNat
                case measure => have := HX9.out.2.2.2; omega
                case rel => exact ⟨x + 1, rfl, ⟨⟨by omega, by omega, by rw [← HX9.out.2.2.1]; exact (upto_go L9.out PX.out).symm, rfl⟩⟩, ⟨by repeat (first | exact dr0 _ | refine dr1 ?_ _)⟩⟩
              · replace p9 : (rd b x == 32) = false := by simpa using p9
                have PX := Aside0.mk p9
                go_wp2
                go_meet
                case rel => exact ⟨by rw [← HX9.out.2.2.1, show upto (b.length : Int) (fun x => rd b x == 32) x = x from upto_stop PX.out], ⟨by repeat (first | exact dr0 _ | refine dr1 ?_ _)⟩⟩
            · have d9 : decide (x < (b.length : Int)) = false := decide_eq_false l9
              have L9 := Aside0.mk l9
              clear l9
              go_wp2
              go_meet
              case rel => exact ⟨by rw [← HX9.out.2.2.1, upto_end (by have := L9.out; omega)], ⟨by repeat (first | exact dr0 _ | refine dr1 ?_ _)⟩⟩
        case rest =>
          obtain ⟨rfl, ⟨n4, rfl⟩⟩ := hcut
          go_wp2_with (first | (go_at_call 10; (with_reducible refine (add_calls w0 _ g _ c0 b at_ row op base only text (.slice _ l.length c2) l (by repeat (first | exact H.out | exact H.out.drewN _ | exact (H.out.drewN _).drewN _ | (with_reducible first | apply RR.drew | apply RR.set1 | apply RR.set2 | apply RR.set3 | apply RR.set4 | apply RR.set5 | apply RR.set6))) _ _ (by omega) (by omega) (by omega) (by omega)).mono ?_); rintro e w2 ⟨rfl, V5, h2⟩; have H5 := Aside0.mk h2; clear h2))
          first | go_ret | (go_wp2; go_ret)
          rw [HS.out]
          exact ⟨rfl, V5, (show RR w0 _ g _ c0 b (spaces b at_) row (op) (adBase 2 at_ row base) (adOnly 2 only) (text) V5 (l ++ [⟨2, at_, spaces b at_⟩]) from by repeat (first | exact H5.out | exact H5.out.drewN _ | exact (H5.out.drewN _).drewN _ | (with_reducible first | apply RR.drew | apply RR.set1 | apply RR.set2 | apply RR.set3 | apply RR.set4 | apply RR.set5 | apply RR.set6)))⟩
      · have a1 : (at_ == row) = true := beq_iff_eq.mpr a
        have a2 : (rd b at_ == 32) = false := beq_eq_false_iff_ne.mpr c
        by_cases bl : Sc.blank (rd b at_) = true
        · have HS := Aside0.mk (show spaceS b (⟨at_, row, op, base, only, text, l⟩ : RSt) = some (addR 3 (blanks b at_) (⟨at_, row, op, base, only, text, l⟩ : RSt)) by unfold spaceS; dsimp only; rw [if_neg p, if_neg (fun h => c h.2), if_pos bl])
          clear p c
          try clear a
          go_enter Try.func11, Try.ntmps11
          go_wp2
          go_quiet (fail)
          go_wp2_with (first | (go_at_call 20; (with_reducible refine (break_calls _ _ c0 b (by first | exact H.out.q.C | exact (H.out.q.drewN _).C | exact ((H.out.q.drewN _).drewN _).C) H.out.q.cap H.out.q.len _ (by omega) (by omega)).mono ?_); rintro e w1 ⟨rfl, n1, rfl⟩))
          go_quiet (fail)
          go_upto_block 2 with (first | (go_at_call 20; (with_reducible refine (break_calls _ _ c0 b (by first | exact H.out.q.C | exact (H.out.q.drewN _).C | exact ((H.out.q.drewN _).drewN _).C) H.out.q.cap H.out.q.len _ (by omega) (by omega)).mono ?_); rintro e w1 ⟨rfl, n1, rfl⟩) | (go_at_call 22; (with_reducible refine (rblank_calls _ _).mono ?_); rintro e w1 ⟨rfl, n1, rfl⟩))
          go_cut [4] (fun v4 wc => v4 = .int .i64 (blanks b at_) ∧ Aside0 (∃ n, wc = W.drewN n))
          case first =>
            go_wp2
            go_loopg [4] ((b.length : Int) - at_).toNat (fun kq v w' => ∃ x : Int, v = .int .i64 x ∧ Aside0 (at_ ≤ x ∧ x ≤ (b.length : Int) ∧ upto (b.length : Int) (fun x => Sc.blank (rd b x)) x = blanks b at_ ∧ kq = ((b.length : Int) - x).toNat) ∧ Aside0 (∃ n, w' = W.drewN n))
            case atStart => exact ⟨_, rfl, ⟨⟨by omega, by omega, rfl, rfl⟩⟩, ⟨by repeat (first | exact dr0 _ | refine dr1 ?_ _)⟩⟩
            case round =>
              obtain ⟨x, rfl, HX9, ⟨n9, rfl⟩⟩ := hrel
              have hx0 := HX9.out.1
              have hx1 := HX9.out.2.1
              by_cases l9 : x < (b.length : Int)
              · have d9 : decide (x < (b.length : Int)) = true := decide_eq_true l9
                obtain ⟨ad9, ea9, hx9⟩ := Kd.at_int H.out.q.C (x) (by omega) l9
                try cases ea9
                have q19 : (0 ≤ x) = True := eq_true (by omega)
                have q29 : (x < (b.length : Int)) = True := eq_true (by omega)
                by_cases p9 : (Sc.blank (rd b x)) = true
                · have PX := Aside0.mk p9
                  have L9 := Aside0.mk l9
                  go_wp2_with (first | (go_at_call 22; (with_reducible refine (rblank_calls _ _).mono ?_); rintro e w1 ⟨rfl, n1, rfl⟩))
                  go_roundg ((b.length : Int) - (x + 1)).toNat
                  case measure => have := HX9.out.2.2.2; omega
                  case rel => exact ⟨x + 1, rfl, ⟨⟨by omega, by omega, by rw [← HX9.out.2.2.1]; exact (upto_go L9.out PX.out).symm, rfl⟩⟩, ⟨by repeat (first | exact dr0 _ | refine dr1 ?_ _)⟩⟩
                · replace p9 : (Sc.blank (rd b x)) = false := by simpa using p9
                  have PX := Aside0.mk p9
                  go_wp2_with (first | (go_at_call 22; (with_reducible refine (rblank_calls _ _).mono ?_); rintro e w1 ⟨rfl, n1, rfl⟩))
                  go_meet
                  case rel => exact ⟨by rw [← HX9.out.2.2.1, show upto (b.length : Int) (fun x => Sc.blank (rd b x)) x = x from upto_stop PX.out], ⟨by repeat (first | exact dr0 _ | refine dr1 ?_ _)⟩⟩
              · have d9 : decide (x < (b.length : Int)) = false := decide_eq_false l9
                have L9 := Aside0.mk l9
                clear l9
                go_wp2
                go_meet
                case rel => exact ⟨by rw [← HX9.out.2.2.1, upto_end (by have := L9.out; omega)], ⟨by repeat (first | exact dr0 _ | refine dr1 ?_ _)⟩⟩
          case rest =>
            obtain ⟨rfl, ⟨n4, rfl⟩⟩ := hcut
            go_wp2_with (first | (go_at_call 10; (with_reducible refine (add_calls w0 _ g _ c0 b at_ row op base only text (.slice _ l.length c2) l (by repeat (first | exact H.out | exact H.out.drewN _ | exact (H.out.drewN _).drewN _ | (with_reducible first | apply RR.drew | apply RR.set1 | apply RR.set2 | apply RR.set3 | apply RR.set4 | apply RR.set5 | apply RR.set6))) _ _ (by omega) (by omega) (by omega) (by omega)).mono ?_); rintro e w2 ⟨rfl, V5, h2⟩; have H5 := Aside0.mk h2; clear h2))
            first | go_ret | (go_wp2; go_ret)
            rw [HS.out]
            exact ⟨rfl, V5, (show RR w0 _ g _ c0 b (blanks b at_) row (op) (adBase 3 at_ row base) (adOnly 3 only) (text) V5 (l ++ [⟨3, at_, blanks b at_⟩]) from by repeat (first | exact H5.out | exact H5.out.drewN _ | exact (H5.out.drewN _).drewN _ | (with_reducible first | apply RR.drew | apply RR.set1 | apply RR.set2 | apply RR.set3 | apply RR.set4 | apply RR.set5 | apply RR.set6)))⟩
        · replace bl : Sc.blank (rd b at_) = false := by simpa using bl
          have nb : ¬ Sc.blank (rd b at_) = true := by rw [bl]; exact Bool.false_ne_true
          by_cases h35 : rd b at_ = 35
          · have k35 : (rd b at_ == 35) = true := beq_iff_eq.mpr h35
            have HS := Aside0.mk (show spaceS b (⟨at_, row, op, base, only, text, l⟩ : RSt) = some (addR 4 (line b at_) (⟨at_, row, op, base, only, text, l⟩ : RSt)) by unfold spaceS; dsimp only; rw [if_neg p, if_neg (fun h => c h.2), if_neg nb, if_pos ⟨h35, .inl a⟩])
            clear p nb h35 c
            try clear a
            go_enter Try.func11, Try.ntmps11
            go_wp2
            go_quiet (fail)
            go_wp2_with (first | (go_at_call 20; (with_reducible refine (break_calls _ _ c0 b (by first | exact H.out.q.C | exact (H.out.q.drewN _).C | exact ((H.out.q.drewN _).drewN _).C) H.out.q.cap H.out.q.len _ (by omega) (by omega)).mono ?_); rintro e w1 ⟨rfl, n1, rfl⟩))
            go_quiet (fail)
            go_wp2_with (first | (go_at_call 22; (with_reducible refine (rblank_calls _ _).mono ?_); rintro e w1 ⟨rfl, n1, rfl⟩))
            go_quiet (fail)
            go_wp2_with (first | (go_at_call 23; (with_reducible refine (rowEnd_calls _ g _ c0 b at_ row op base only text (.slice _ l.length c2) (by first | exact H.out.q | exact H.out.q.drewN _ | exact (H.out.q.drewN _).drewN _) _ (by omega) (by omega)).mono ?_); rintro e w1 ⟨rfl, n1, rfl⟩) | (go_at_call 10; (with_reducible refine (add_calls w0 _ g _ c0 b at_ row op base only text (.slice _ l.length c2) l (by repeat (first | exact H.out | exact H.out.drewN _ | exact (H.out.drewN _).drewN _ | (with_reducible first | apply RR.drew | apply RR.set1 | apply RR.set2 | apply RR.set3 | apply RR.set4 | apply RR.set5 | apply RR.set6))) _ _ (by omega) (by omega) (by omega) (by omega)).mono ?_); rintro e w2 ⟨rfl, V5, h2⟩; have H5 := Aside0.mk h2; clear h2))
            first | go_ret | (go_wp2; go_ret)
            rw [HS.out]
            exact ⟨rfl, V5, (show RR w0 _ g _ c0 b (line b at_) row (op) (adBase 4 at_ row base) (adOnly 4 only) (text) V5 (l ++ [⟨4, at_, line b at_⟩]) from by repeat (first | exact H5.out | exact H5.out.drewN _ | exact (H5.out.drewN _).drewN _ | (with_reducible first | apply RR.drew | apply RR.set1 | apply RR.set2 | apply RR.set3 | apply RR.set4 | apply RR.set5 | apply RR.set6)))⟩
          · have k35 : (rd b at_ == 35) = false := beq_eq_false_iff_ne.mpr h35
            have HS := Aside0.mk (show spaceS b (⟨at_, row, op, base, only, text, l⟩ : RSt) = none by unfold spaceS; dsimp only; rw [if_neg p, if_neg (fun h => c h.2), if_neg nb, if_neg (fun h => h35 h.1)])
            clear p nb h35 c
            try clear a
            go_enter Try.func11, Try.ntmps11
            go_wp2
            go_quiet (fail)
            go_wp2_with (first | (go_at_call 20; (with_reducible refine (break_calls _ _ c0 b (by first | exact H.out.q.C | exact (H.out.q.drewN _).C | exact ((H.out.q.drewN _).drewN _).C) H.out.q.cap H.out.q.len _ (by omega) (by omega)).mono ?_); rintro e w1 ⟨rfl, n1, rfl⟩))
            go_quiet (fail)
            go_wp2_with (first | (go_at_call 22; (with_reducible refine (rblank_calls _ _).mono ?_); rintro e w1 ⟨rfl, n1, rfl⟩))
            go_quiet (fail)
            go_wp2
            first | go_ret | (go_wp2; go_ret)
            rw [HS.out]
            exact ⟨rfl, _, (show RR w0 _ g _ c0 b at_ row op base only text (.slice _ l.length c2) l from by repeat (first | exact H.out | exact H.out.drewN _ | exact (H.out.drewN _).drewN _ | (with_reducible first | apply RR.drew | apply RR.set1 | apply RR.set2 | apply RR.set3 | apply RR.set4 | apply RR.set5 | apply RR.set6)))⟩
    · have c : True := trivial
      have a1 : (at_ == row) = false := beq_eq_false_iff_ne.mpr a
      by_cases bl : Sc.blank (rd b at_) = true
      · have HS := Aside0.mk (show spaceS b (⟨at_, row, op, base, only, text, l⟩ : RSt) = some (addR 3 (blanks b at_) (⟨at_, row, op, base, only, text, l⟩ : RSt)) by unfold spaceS; dsimp only; rw [if_neg p, if_neg (fun h => a h.1), if_pos bl])
        clear p c
        try clear a
        go_enter Try.func11, Try.ntmps11
        go_wp2
        go_quiet (fail)
        go_wp2_with (first | (go_at_call 20; (with_reducible refine (break_calls _ _ c0 b (by first | exact H.out.q.C | exact (H.out.q.drewN _).C | exact ((H.out.q.drewN _).drewN _).C) H.out.q.cap H.out.q.len _ (by omega) (by omega)).mono ?_); rintro e w1 ⟨rfl, n1, rfl⟩))
        go_quiet (fail)
        go_upto_block 2 with (first | (go_at_call 20; (with_reducible refine (break_calls _ _ c0 b (by first | exact H.out.q.C | exact (H.out.q.drewN _).C | exact ((H.out.q.drewN _).drewN _).C) H.out.q.cap H.out.q.len _ (by omega) (by omega)).mono ?_); rintro e w1 ⟨rfl, n1, rfl⟩) | (go_at_call 22; (with_reducible refine (rblank_calls _ _).mono ?_); rintro e w1 ⟨rfl, n1, rfl⟩))
        go_cut [4] (fun v4 wc => v4 = .int .i64 (blanks b at_) ∧ Aside0 (∃ n, wc = W.drewN n))
        case first =>
          go_wp2
          go_loopg [4] ((b.length : Int) - at_).toNat (fun kq v w' => ∃ x : Int, v = .int .i64 x ∧ Aside0 (at_ ≤ x ∧ x ≤ (b.length : Int) ∧ upto (b.length : Int) (fun x => Sc.blank (rd b x)) x = blanks b at_ ∧ kq = ((b.length : Int) - x).toNat) ∧ Aside0 (∃ n, w' = W.drewN n))
          case atStart => exact ⟨_, rfl, ⟨⟨by omega, by omega, rfl, rfl⟩⟩, ⟨by repeat (first | exact dr0 _ | refine dr1 ?_ _)⟩⟩
          case round =>
            obtain ⟨x, rfl, HX9, ⟨n9, rfl⟩⟩ := hrel
            have hx0 := HX9.out.1
            have hx1 := HX9.out.2.1
            by_cases l9 : x < (b.length : Int)
            · have d9 : decide (x < (b.length : Int)) = true := decide_eq_true l9
              obtain ⟨ad9, ea9, hx9⟩ := Kd.at_int H.out.q.C (x) (by omega) l9
              try cases ea9
              have q19 : (0 ≤ x) = True := eq_true (by omega)
              have q29 : (x < (b.length : Int)) = True := eq_true (by omega)
              by_cases p9 : (Sc.blank (rd b x)) = true
              · have PX := Aside0.mk p9
                have L9 := Aside0.mk l9
                go_wp2_with (first | (go_at_call 22; (with_reducible refine (rblank_calls _ _).mono ?_); rintro e w1 ⟨rfl, n1, rfl⟩))
                go_roundg ((b.length : Int) - (x + 1)).toNat
                case measure => have := HX9.out.2.2.2; omega
                case rel => exact ⟨x + 1, rfl, ⟨⟨by omega, by omega, by rw [← HX9.out.2.2.1]; exact (upto_go L9.out PX.out).symm, rfl⟩⟩, ⟨by repeat (first | exact dr0 _ | refine dr1 ?_ _)⟩⟩
              · replace p9 : (Sc.blank (rd b x)) = false := by simpa using p9
                have PX := Aside0.mk p9
                go_wp2_with (first | (go_at_call 22; (with_reducible refine (rblank_calls _ _).mono ?_); rintro e w1 ⟨rfl, n1, rfl⟩))
                go_meet
                case rel => exact ⟨by rw [← HX9.out.2.2.1, show upto (b.length : Int) (fun x => Sc.blank (rd b x)) x = x from upto_stop PX.out], ⟨by repeat (first | exact dr0 _ | refine dr1 ?_ _)⟩⟩
            · have d9 : decide (x < (b.length : Int)) = false := decide_eq_false l9
              have L9 := Aside0.mk l9
              clear l9
              go_wp2
              go_meet
              case rel => exact ⟨by rw [← HX9.out.2.2.1, upto_end (by have := L9.out; omega)], ⟨by repeat (first | exact dr0 _ | refine dr1 ?_ _)⟩⟩
        case rest =>
          obtain ⟨rfl, ⟨n4, rfl⟩⟩ := hcut
          go_wp2_with (first | (go_at_call 10; (with_reducible refine (add_calls w0 _ g _ c0 b at_ row op base only text (.slice _ l.length c2) l (by repeat (first | exact H.out | exact H.out.drewN _ | exact (H.out.drewN _).drewN _ | (with_reducible first | apply RR.drew | apply RR.set1 | apply RR.set2 | apply RR.set3 | apply RR.set4 | apply RR.set5 | apply RR.set6))) _ _ (by omega) (by omega) (by omega) (by omega)).mono ?_); rintro e w2 ⟨rfl, V5, h2⟩; have H5 := Aside0.mk h2; clear h2))
          first | go_ret | (go_wp2; go_ret)
          rw [HS.out]
          exact ⟨rfl, V5, (show RR w0 _ g _ c0 b (blanks b at_) row (op) (adBase 3 at_ row base) (adOnly 3 only) (text) V5 (l ++ [⟨3, at_, blanks b at_⟩]) from by repeat (first | exact H5.out | exact H5.out.drewN _ | exact (H5.out.drewN _).drewN _ | (with_reducible first | apply RR.drew | apply RR.set1 | apply RR.set2 | apply RR.set3 | apply RR.set4 | apply RR.set5 | apply RR.set6)))⟩
      · replace bl : Sc.blank (rd b at_) = false := by simpa using bl
        have nb : ¬ Sc.blank (rd b at_) = true := by rw [bl]; exact Bool.false_ne_true
        by_cases h35 : rd b at_ = 35
        · have k35 : (rd b at_ == 35) = true := beq_iff_eq.mpr h35
          have hp : 0 < l.length := hf.resolve_left a
          have hne : l ≠ [] := List.length_pos_iff.mp hp
          obtain ⟨j, hj⟩ : ∃ j : Int, j = (l.length : Int) - 1 := ⟨_, rfl⟩
          have he : last l = (rd_T48 l j).f0 := by rw [hj]; simp [last, hne]
          obtain ⟨ad2, ea2, hy0, hy1, hy2⟩ := at_T48 (Kd.R_reads' H.out.r).2.2 j (by omega) (by omega)
          cases ea2
          have y1 : 0 ≤ j := by omega
          have y2 : j < (l.length : Int) := by omega
          have y3 : IntKind.i64.wrap ((l.length : Int) - 1) = j := (IntWalk.i64_in _ (by omega)).trans hj.symm
          clear hj hne hp
          replace y1 := eq_true y1
          replace y2 := eq_true y2
          by_cases t2 : (rd_T48 l j).f0 = 2
          · have u2 : ((rd_T48 l j).f0 == 2) = true := beq_iff_eq.mpr t2
            have HS := Aside0.mk (show spaceS b (⟨at_, row, op, base, only, text, l⟩ : RSt) = some (addR 4 (line b at_) (⟨at_, row, op, base, only, text, l⟩ : RSt)) by unfold spaceS; dsimp only; rw [if_neg p, if_neg (fun h => a h.1), if_neg nb, if_pos ⟨h35, .inr (.inl (he.trans t2))⟩])
            clear t2 he
            clear p nb h35 c
            try clear a
            go_enter Try.func11, Try.ntmps11
            go_wp2
            go_quiet (fail)
            go_wp2_with (first | (go_at_call 20; (with_reducible refine (break_calls _ _ c0 b (by first | exact H.out.q.C | exact (H.out.q.drewN _).C | exact ((H.out.q.drewN _).drewN _).C) H.out.q.cap H.out.q.len _ (by omega) (by omega)).mono ?_); rintro e w1 ⟨rfl, n1, rfl⟩))
            go_quiet (fail)
            go_wp2_with (first | (go_at_call 22; (with_reducible refine (rblank_calls _ _).mono ?_); rintro e w1 ⟨rfl, n1, rfl⟩))
            go_quiet (fail)
            go_wp2_with (first | (go_at_call 23; (with_reducible refine (rowEnd_calls _ g _ c0 b at_ row op base only text (.slice _ l.length c2) (by first | exact H.out.q | exact H.out.q.drewN _ | exact (H.out.q.drewN _).drewN _) _ (by omega) (by omega)).mono ?_); rintro e w1 ⟨rfl, n1, rfl⟩) | (go_at_call 10; (with_reducible refine (add_calls w0 _ g _ c0 b at_ row op base only text (.slice _ l.length c2) l (by repeat (first | exact H.out | exact H.out.drewN _ | exact (H.out.drewN _).drewN _ | (with_reducible first | apply RR.drew | apply RR.set1 | apply RR.set2 | apply RR.set3 | apply RR.set4 | apply RR.set5 | apply RR.set6))) _ _ (by omega) (by omega) (by omega) (by omega)).mono ?_); rintro e w2 ⟨rfl, V5, h2⟩; have H5 := Aside0.mk h2; clear h2))
            first | go_ret | (go_wp2; go_ret)
            rw [HS.out]
            exact ⟨rfl, V5, (show RR w0 _ g _ c0 b (line b at_) row (op) (adBase 4 at_ row base) (adOnly 4 only) (text) V5 (l ++ [⟨4, at_, line b at_⟩]) from by repeat (first | exact H5.out | exact H5.out.drewN _ | exact (H5.out.drewN _).drewN _ | (with_reducible first | apply RR.drew | apply RR.set1 | apply RR.set2 | apply RR.set3 | apply RR.set4 | apply RR.set5 | apply RR.set6)))⟩
          · have u2 : ((rd_T48 l j).f0 == 2) = false := beq_eq_false_iff_ne.mpr t2
            by_cases t3 : (rd_T48 l j).f0 = 3
            · have u3 : ((rd_T48 l j).f0 == 3) = true := beq_iff_eq.mpr t3
              have HS := Aside0.mk (show spaceS b (⟨at_, row, op, base, only, text, l⟩ : RSt) = some (addR 4 (line b at_) (⟨at_, row, op, base, only, text, l⟩ : RSt)) by unfold spaceS; dsimp only; rw [if_neg p, if_neg (fun h => a h.1), if_neg nb, if_pos ⟨h35, .inr (.inr (he.trans t3))⟩])
              clear t2 t3 he
              clear p nb h35 c
              try clear a
              go_enter Try.func11, Try.ntmps11
              go_wp2
              go_quiet (fail)
              go_wp2_with (first | (go_at_call 20; (with_reducible refine (break_calls _ _ c0 b (by first | exact H.out.q.C | exact (H.out.q.drewN _).C | exact ((H.out.q.drewN _).drewN _).C) H.out.q.cap H.out.q.len _ (by omega) (by omega)).mono ?_); rintro e w1 ⟨rfl, n1, rfl⟩))
              go_quiet (fail)
              go_wp2_with (first | (go_at_call 22; (with_reducible refine (rblank_calls _ _).mono ?_); rintro e w1 ⟨rfl, n1, rfl⟩))
              go_quiet (fail)
              go_wp2_with (first | (go_at_call 23; (with_reducible refine (rowEnd_calls _ g _ c0 b at_ row op base only text (.slice _ l.length c2) (by first | exact H.out.q | exact H.out.q.drewN _ | exact (H.out.q.drewN _).drewN _) _ (by omega) (by omega)).mono ?_); rintro e w1 ⟨rfl, n1, rfl⟩) | (go_at_call 10; (with_reducible refine (add_calls w0 _ g _ c0 b at_ row op base only text (.slice _ l.length c2) l (by repeat (first | exact H.out | exact H.out.drewN _ | exact (H.out.drewN _).drewN _ | (with_reducible first | apply RR.drew | apply RR.set1 | apply RR.set2 | apply RR.set3 | apply RR.set4 | apply RR.set5 | apply RR.set6))) _ _ (by omega) (by omega) (by omega) (by omega)).mono ?_); rintro e w2 ⟨rfl, V5, h2⟩; have H5 := Aside0.mk h2; clear h2))
              first | go_ret | (go_wp2; go_ret)
              rw [HS.out]
              exact ⟨rfl, V5, (show RR w0 _ g _ c0 b (line b at_) row (op) (adBase 4 at_ row base) (adOnly 4 only) (text) V5 (l ++ [⟨4, at_, line b at_⟩]) from by repeat (first | exact H5.out | exact H5.out.drewN _ | exact (H5.out.drewN _).drewN _ | (with_reducible first | apply RR.drew | apply RR.set1 | apply RR.set2 | apply RR.set3 | apply RR.set4 | apply RR.set5 | apply RR.set6)))⟩
            · have u3 : ((rd_T48 l j).f0 == 3) = false := beq_eq_false_iff_ne.mpr t3
              have HS := Aside0.mk (show spaceS b (⟨at_, row, op, base, only, text, l⟩ : RSt) = none by unfold spaceS; dsimp only; rw [if_neg p, if_neg (fun h => a h.1), if_neg nb, if_neg (fun h => h.2.elim a (fun h => h.elim (fun h => t2 (he.symm.trans h)) (fun h => t3 (he.symm.trans h))))])
              clear t2 t3 he
              clear p nb h35 c
              try clear a
              go_enter Try.func11, Try.ntmps11
              go_wp2
              go_quiet (fail)
              go_wp2_with (first | (go_at_call 20; (with_reducible refine (break_calls _ _ c0 b (by first | exact H.out.q.C | exact (H.out.q.drewN _).C | exact ((H.out.q.drewN _).drewN _).C) H.out.q.cap H.out.q.len _ (by omega) (by omega)).mono ?_); rintro e w1 ⟨rfl, n1, rfl⟩))
              go_quiet (fail)
              go_wp2_with (first | (go_at_call 22; (with_reducible refine (rblank_calls _ _).mono ?_); rintro e w1 ⟨rfl, n1, rfl⟩))
              go_quiet (fail)
              go_wp2
              first | go_ret | (go_wp2; go_ret)
              rw [HS.out]
              exact ⟨rfl, _, (show RR w0 _ g _ c0 b at_ row op base only text (.slice _ l.length c2) l from by repeat (first | exact H.out | exact H.out.drewN _ | exact (H.out.drewN _).drewN _ | (with_reducible first | apply RR.drew | apply RR.set1 | apply RR.set2 | apply RR.set3 | apply RR.set4 | apply RR.set5 | apply RR.set6)))⟩
        · have k35 : (rd b at_ == 35) = false := beq_eq_false_iff_ne.mpr h35
          have HS := Aside0.mk (show spaceS b (⟨at_, row, op, base, only, text, l⟩ : RSt) = none by unfold spaceS; dsimp only; rw [if_neg p, if_neg (fun h => a h.1), if_neg nb, if_neg (fun h => h35 h.1)])
          clear p nb h35 c
          try clear a
          go_enter Try.func11, Try.ntmps11
          go_wp2
          go_quiet (fail)
          go_wp2_with (first | (go_at_call 20; (with_reducible refine (break_calls _ _ c0 b (by first | exact H.out.q.C | exact (H.out.q.drewN _).C | exact ((H.out.q.drewN _).drewN _).C) H.out.q.cap H.out.q.len _ (by omega) (by omega)).mono ?_); rintro e w1 ⟨rfl, n1, rfl⟩))
          go_quiet (fail)
          go_wp2_with (first | (go_at_call 22; (with_reducible refine (rblank_calls _ _).mono ?_); rintro e w1 ⟨rfl, n1, rfl⟩))
          go_quiet (fail)
          go_wp2
          first | go_ret | (go_wp2; go_ret)
          rw [HS.out]
          exact ⟨rfl, _, (show RR w0 _ g _ c0 b at_ row op base only text (.slice _ l.length c2) l from by repeat (first | exact H.out | exact H.out.drewN _ | exact (H.out.drewN _).drewN _ | (with_reducible first | apply RR.drew | apply RR.set1 | apply RR.set2 | apply RR.set3 | apply RR.set4 | apply RR.set5 | apply RR.set6)))⟩

end Go.Proofs.Ytagjfcogbnhmgaa.Rf
