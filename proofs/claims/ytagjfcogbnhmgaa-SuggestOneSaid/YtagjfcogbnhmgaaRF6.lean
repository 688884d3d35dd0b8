/- The reference's scanner: the rows of a block text. -/
import Derived.Test.YtagjfcogbnhmgaaRF5
import Derived.StillTailTactics
namespace Go.Proofs.Ytagjfcogbnhmgaa.Rf
open Go.RowKit Go.Proofs.Ytagjfcogbnhmgaa.Q Go.Proofs.YtagjfcogbnhmgaaW.PrintWords Go.Proofs.YtagjfcogbnhmgaaW.PrintLast Go.Proofs.YtagjfcogbnhmgaaW.PrintMore Go.Proofs.Ytagjfcogbnhmgaa.Sc Go.Proofs.Ytagjfcogbnhmgaa.Pure
attribute [local go_sem] max2_int min2_int max_two min_two max_three min_three max_four min_four
set_option linter.unusedVariables false
set_option linter.unusedSimpArgs false
set_option maxHeartbeats 1000000
set_option maxRecDepth 100000

theorem brk_le {b : List Int} {i : Int} (h : 0 < brk b i) : i + brk b i ≤ (b.length : Int) := by
  unfold brk at h ⊢
  split
  · rename_i h1
    have := (th_true (Bool.and_eq_true _ _ |>.mp h1).2).1
    omega
  · rename_i h1
    rw [if_neg h1] at h
    split
    · rename_i h2
      rcases Bool.or_eq_true _ _ |>.mp h2 with h3 | h3 <;> have := (th_true h3).1 <;> omega
    · rename_i h2
      rw [if_neg h2] at h
      omega
theorem upto_at {n : Int} {p : Int → Bool} : ∀ {i : Int}, upto n p i < n → p (upto n p i) = false := by
  intro i h
  have key : ∀ (k : Nat) (i : Int), k = (n - i).toNat → upto n p i < n → p (upto n p i) = false := by
    intro k
    induction k with
    | zero =>
      intro i hk h
      rw [upto_end (by omega)] at h
      omega
    | succ k ih =>
      intro i hk h
      by_cases hp : p i = true
      · rw [upto_go (by omega) hp] at h ⊢
        exact ih (i + 1) (by omega) h
      · rw [upto_stop (by simpa using hp)]
        simpa using hp
  exact key _ i rfl h
/-- Behind a row there is more than ahead of it. -/
theorem line_more {b : List Int} {i : Int} (h : i < (b.length : Int)) : i < line b i + brk b (line b i) ∧ line b i + brk b (line b i) ≤ (b.length : Int) := by
  have h1 := upto_le (n := (b.length : Int)) (i := i) (p := fun j => brk b j == 0) (Int.le_of_lt h)
  have h0 : i ≤ line b i := h1.1
  have h2 : line b i ≤ (b.length : Int) := h1.2
  have h3 := brk_range b (line b i)
  by_cases h4 : line b i < (b.length : Int)
  · have h5 : (brk b (line b i) == 0) = false := upto_at (p := fun j => brk b j == 0) h4
    have h6 : brk b (line b i) ≠ 0 := by simpa using h5
    exact ⟨by omega, brk_le (by omega)⟩
  · have h7 : brk b (line b i) = 0 := by
      rcases Int.lt_or_le 0 (brk b (line b i)) with h8 | h8
      · have := brk_le h8; omega
      · omega
    omega
/-- What the rows' loop wants of a scanner. -/
structure OkT (b : List Int) (s : RSt) : Prop where
  r0 : 0 ≤ s.row
  r1 : s.row ≤ s.at_
  a1 : s.at_ ≤ (b.length : Int)
  n : (s.l.length : Int) ≤ s.at_
theorem OkT.next {b : List Int} {s : RSt} (h : OkT b s) (k : Int) {e : Int} (h1 : s.at_ < e) (h2 : e ≤ (b.length : Int)) : OkT b (nextR (addR k e s)) := by
  have := h.r0
  have := h.r1
  have := h.n
  refine ⟨?_, ?_, h2, ?_⟩
  · simp only [nextR, addR]; omega
  · simp only [nextR, addR]; omega
  · simp only [nextR, addR, List.length_append, List.length_singleton]; omega

theorem texts_calls (w0 W : World) (g : Nat) (A0 : Option Addr) (c0 : Nat) (b : List Int) (at_ row op base : Int) (only : Bool) (text : Int) (V : Value) (l : List S48) (hs : RR w0 W g A0 c0 b at_ row op base only text V l) (hk : OkT b (⟨at_, row, op, base, only, text, l⟩ : RSt)) :
    Calls Try.prog 21 #[.pointer (some ⟨g, 0, none⟩)] W fun e w' => e = .returned (.tuple #[]) ∧ RS w0 w' g A0 c0 b (textsR b (⟨at_, row, op, base, only, text, l⟩ : RSt)) := by
  have H := Aside0.mk hs
  have hc0 := hs.q.cell0
  have hc1 := hs.q.cell1
  have hc2 := hs.q.cell2
  have hc3 := hs.q.cell3
  have hc4 := hs.q.cell4
  have hc5 := hs.q.cell5
  have hc6 := hs.q.cell6
  have hc7 := hs.q.cell7
  have hf1 := blk_frozen hs.q.blk 1
  have hf2 := blk_frozen hs.q.blk 2
  have hf3 := blk_frozen hs.q.blk 3
  have hf4 := blk_frozen hs.q.blk 4
  have hf5 := blk_frozen hs.q.blk 5
  have hf6 := blk_frozen hs.q.blk 6
  have hf7 := blk_frozen hs.q.blk 7
  have hl := hs.q.len
  clear hs
  have hrow0 : 0 ≤ row := hk.r0
  have hrow1 : row ≤ at_ := hk.r1
  have hat1 : at_ ≤ (b.length : Int) := hk.a1
  have hln : (l.length : Int) ≤ at_ := hk.n
  have HK := Aside0.mk (show OkT b (⟨at_, row, op, base, only, -2, l⟩ : RSt) from ⟨hk.r0, hk.r1, hk.a1, hk.n⟩)
  clear hk
  have HR : Aside0 (textsR b (⟨at_, row, op, base, only, text, l⟩ : RSt) = rowsR b text ((b.length : Int) - at_).toNat ⟨at_, row, op, base, only, -2, l⟩) := ⟨rfl⟩
  go_enter Try.func21, Try.ntmps21
  go_wp2
  go_loopg [3, 4, 5] ((b.length : Int) - at_).toNat (fun kq v3 v4 v5 wq => ∃ s : RSt, Aside0 (OkT b s ∧ rowsR b text kq s = rowsR b text ((b.length : Int) - at_).toNat ⟨at_, row, op, base, only, -2, l⟩ ∧ (b.length : Int) - s.at_ ≤ kq) ∧ Aside0 (RS w0 wq g A0 c0 b s))
  case atStart => exact ⟨_, ⟨⟨HK.out, rfl, by dsimp only; omega⟩⟩, ⟨⟨V, (show RR w0 _ g _ c0 b at_ row op base only (-2) V l from by repeat (first | exact H.out | exact H.out.drewN _ | exact (H.out.drewN _).drewN _ | (with_reducible first | apply RR.drew | apply RR.set1 | apply RR.set2 | apply RR.set3 | apply RR.set4 | apply RR.set5 | apply RR.set6)))⟩⟩⟩
  case round =>
    clear hrow0 hrow1 hat1 hln HK hc0 hc1 hc2 hc3 hc4 hc5 hc6 hc7 hf1 hf2 hf3 hf4 hf5 hf6 hf7
    obtain ⟨s, HX, HSS⟩ := hrel
    obtain ⟨at3, row3, op3, base3, only3, text3, l3⟩ := s
    obtain ⟨V3, h3⟩ := HSS.out
    have H3 : Aside0 (RR w0 wr g A0 c0 b at3 row3 op3 base3 only3 text3 V3 l3) := ⟨h3⟩
    clear h3 HSS H
    have gc0 := H3.out.q.cell0
    have gc1 := H3.out.q.cell1
    have gc2 := H3.out.q.cell2
    have gc3 := H3.out.q.cell3
    have gc4 := H3.out.q.cell4
    have gc5 := H3.out.q.cell5
    have gc6 := H3.out.q.cell6
    have gc7 := H3.out.q.cell7
    have gf1 := blk_frozen H3.out.q.blk 1
    have gf2 := blk_frozen H3.out.q.blk 2
    have gf3 := blk_frozen H3.out.q.blk 3
    have gf4 := blk_frozen H3.out.q.blk 4
    have gf5 := blk_frozen H3.out.q.blk 5
    have gf6 := blk_frozen H3.out.q.blk 6
    have gf7 := blk_frozen H3.out.q.blk 7
    have K3 := Aside0.mk HX.out.1
    have hrow0 : 0 ≤ row3 := K3.out.r0
    have hrow1 : row3 ≤ at3 := K3.out.r1
    have hln : (l3.length : Int) ≤ at3 := K3.out.n
    have hat1 : at3 ≤ (b.length : Int) := K3.out.a1
    by_cases c1 : at3 < (b.length : Int)
    · have d1 : decide (at3 < (b.length : Int)) = true := decide_eq_true c1
      by_cases c2 : markR b at3 = 0
      · have d2 : (markR b at3 == 0) = true := beq_iff_eq.mpr c2
        obtain ⟨m, rfl⟩ : ∃ m, gk = m + 1 := ⟨gk - 1, by have h_ : (b.length : Int) - at3 ≤ (gk : Int) := HX.out.2.2; omega⟩
        have HT := HX.out.2.1
        simp only [rowsR] at HT
        rw [if_pos ⟨c1, c2⟩] at HT
        have HM : Aside0 ((b.length : Int) - at3 ≤ ((m + 1 : Nat) : Int)) := ⟨HX.out.2.2⟩
        clear HX c2
        have hb_ := upto_le (n := (b.length : Int)) (i := at3) (p := fun j => brk b j == 0) hat1
        have e0 : at3 ≤ line b at3 := hb_.1
        have e1 : line b at3 ≤ (b.length : Int) := hb_.2
        have hb_ := upto_le (n := line b at3) (i := at3) (p := fun j => rd b j == 32) e0
        have s0 : at3 ≤ sp2 b (⟨at3, row3, op3, base3, only3, text3, l3⟩ : RSt) := hb_.1
        have s1 : sp2 b (⟨at3, row3, op3, base3, only3, text3, l3⟩ : RSt) ≤ line b at3 := hb_.2
        have hb_ := upto_le (n := line b at3) (i := sp2 b (⟨at3, row3, op3, base3, only3, text3, l3⟩ : RSt)) (p := fun j => Sc.blank (rd b j)) s1
        have m0 : sp2 b (⟨at3, row3, op3, base3, only3, text3, l3⟩ : RSt) ≤ bl2 b (⟨at3, row3, op3, base3, only3, text3, l3⟩ : RSt) := hb_.1
        have m1 : bl2 b (⟨at3, row3, op3, base3, only3, text3, l3⟩ : RSt) ≤ line b at3 := hb_.2
        clear hb_
        have bk := brk_range b (line b at3)
        have bk0 := bk.1
        have bk1 := bk.2
        clear bk
        have lm := line_more (b := b) c1
        have lm0 := lm.1
        have lm1 := lm.2
        clear lm
        have HN : Aside0 (sp2 b (⟨at3, row3, op3, base3, only3, text3, l3⟩ : RSt) = upto (line b at3) (fun x => rd b x == 32) at3) := ⟨rfl⟩
        have HQ : Aside0 (bl2 b (⟨at3, row3, op3, base3, only3, text3, l3⟩ : RSt) = upto (line b at3) (fun x => Sc.blank (rd b x)) (sp2 b (⟨at3, row3, op3, base3, only3, text3, l3⟩ : RSt))) := ⟨rfl⟩
        generalize bl2 b (⟨at3, row3, op3, base3, only3, text3, l3⟩ : RSt) = M at *
        generalize sp2 b (⟨at3, row3, op3, base3, only3, text3, l3⟩ : RSt) = N at *
        have HT3 := Aside0.mk HT
        clear HT
        have HE : Aside0 (∃ E, line b at3 = E) := ⟨⟨_, rfl⟩⟩
        go_wp2
        go_quiet ((go_at_call 9; (with_reducible refine Calls.quiet_of (mark_calls _ g _ c0 b at3 row3 op3 base3 only3 text3 V3 (by first | exact H3.out.q | exact H3.out.q.drewN _ | exact (H3.out.q.drewN _).drewN _) at3 (by omega) (by omega)))))
        go_upto_block 2 with (first | (go_at_call 23; (with_reducible refine (rowEnd_calls _ g _ c0 b at3 row3 op3 base3 only3 text3 V3 (by first | exact H3.out.q | exact H3.out.q.drewN _ | exact (H3.out.q.drewN _).drewN _) _ (by omega) (by omega)).mono ?_); rintro e w1 ⟨rfl, n1, rfl⟩))
        generalize line b at3 = E at *
        go_cut [4] (fun v4 wc => v4 = .int .i64 N ∧ Aside0 (∃ n, wc = wr.drewN n))
        case first =>
          go_wp2
          go_loopg [4] (E - at3).toNat (fun kq v w' => ∃ x : Int, v = .int .i64 x ∧ Aside0 (at3 ≤ x ∧ x ≤ E ∧ upto E (fun x => rd b x == 32) x = N ∧ kq = (E - x).toNat) ∧ Aside0 (∃ n, w' = wr.drewN n))
          case atStart => exact ⟨_, rfl, ⟨⟨by omega, by omega, HN.out.symm, rfl⟩⟩, ⟨by repeat (first | exact dr0 _ | refine dr1 ?_ _)⟩⟩
          case round =>
            obtain ⟨x, rfl, HX9, ⟨n9, rfl⟩⟩ := hrel
            have hx0 := HX9.out.1
            have hx1 := HX9.out.2.1
            by_cases l9 : x < E
            · have d9 : decide (x < E) = true := decide_eq_true l9
              have lx : x < (b.length : Int) := by omega
              obtain ⟨ad9, ea9, hx9⟩ := Kd.at_int H3.out.q.C (x) (by omega) lx
              try cases ea9
              have q19 : (0 ≤ x) = True := eq_true (by omega)
              have q29 : (x < (b.length : Int)) = True := eq_true (by omega)
              by_cases p9 : (rd b x == 32) = true
              · have PX := Aside0.mk p9
                have L9 := Aside0.mk l9
                go_wp2
                go_roundg (E - (x + 1)).toNat
                case measure => have := HX9.out.2.2.2; omega
                case rel => exact ⟨x + 1, rfl, ⟨⟨by omega, by omega, by rw [← HX9.out.2.2.1]; exact (upto_go L9.out PX.out).symm, rfl⟩⟩, ⟨by repeat (first | exact dr0 _ | refine dr1 ?_ _)⟩⟩
              · replace p9 : (rd b x == 32) = false := by simpa using p9
                have PX := Aside0.mk p9
                go_wp2
                go_meet
                case rel => exact ⟨by rw [← HX9.out.2.2.1, show upto E (fun x => rd b x == 32) x = x from upto_stop PX.out], ⟨by repeat (first | exact dr0 _ | refine dr1 ?_ _)⟩⟩
            · have d9 : decide (x < E) = false := decide_eq_false l9
              have L9 := Aside0.mk l9
              clear l9
              go_wp2
              go_meet
              case rel => exact ⟨by rw [← HX9.out.2.2.1, upto_end (by have := L9.out; omega)], ⟨by repeat (first | exact dr0 _ | refine dr1 ?_ _)⟩⟩
        case rest =>
          obtain ⟨rfl, ⟨n4, rfl⟩⟩ := hcut
          go_upto_block 4 with (fail)
          go_cut [5] (fun v5 wc => v5 = .int .i64 M ∧ Aside0 (∃ n, wc = wr.drewN n))
          case first =>
            go_wp2
            go_loopg [5] (E - N).toNat (fun kq v w' => ∃ x : Int, v = .int .i64 x ∧ Aside0 (N ≤ x ∧ x ≤ E ∧ upto E (fun x => Sc.blank (rd b x)) x = M ∧ kq = (E - x).toNat) ∧ Aside0 (∃ n, w' = wr.drewN n))
            case atStart => exact ⟨_, rfl, ⟨⟨by omega, by omega, HQ.out.symm, rfl⟩⟩, ⟨by repeat (first | exact dr0 _ | refine dr1 ?_ _)⟩⟩
            case round =>
              obtain ⟨x, rfl, HX9, ⟨n9, rfl⟩⟩ := hrel
              have hx0 := HX9.out.1
              have hx1 := HX9.out.2.1
              by_cases l9 : x < E
              · have d9 : decide (x < E) = true := decide_eq_true l9
                have lx : x < (b.length : Int) := by omega
                obtain ⟨ad9, ea9, hx9⟩ := Kd.at_int H3.out.q.C (x) (by omega) lx
                try cases ea9
                have q19 : (0 ≤ x) = True := eq_true (by omega)
                have q29 : (x < (b.length : Int)) = True := eq_true (by omega)
                by_cases p9 : (Sc.blank (rd b x)) = true
                · have PX := Aside0.mk p9
                  have L9 := Aside0.mk l9
                  go_wp2_with (first | (go_at_call 22; (with_reducible refine (rblank_calls _ _).mono ?_); rintro e w1 ⟨rfl, n1, rfl⟩))
                  go_roundg (E - (x + 1)).toNat
                  case measure => have := HX9.out.2.2.2; omega
                  case rel => exact ⟨x + 1, rfl, ⟨⟨by omega, by omega, by rw [← HX9.out.2.2.1]; exact (upto_go L9.out PX.out).symm, rfl⟩⟩, ⟨by repeat (first | exact dr0 _ | refine dr1 ?_ _)⟩⟩
                · replace p9 : (Sc.blank (rd b x)) = false := by simpa using p9
                  have PX := Aside0.mk p9
                  go_wp2_with (first | (go_at_call 22; (with_reducible refine (rblank_calls _ _).mono ?_); rintro e w1 ⟨rfl, n1, rfl⟩))
                  go_meet
                  case rel => exact ⟨by rw [← HX9.out.2.2.1, show upto E (fun x => Sc.blank (rd b x)) x = x from upto_stop PX.out], ⟨by repeat (first | exact dr0 _ | refine dr1 ?_ _)⟩⟩
              · have d9 : decide (x < E) = false := decide_eq_false l9
                have L9 := Aside0.mk l9
                clear l9
                go_wp2
                go_meet
                case rel => exact ⟨by rw [← HX9.out.2.2.1, upto_end (by have := L9.out; omega)], ⟨by repeat (first | exact dr0 _ | refine dr1 ?_ _)⟩⟩
          case rest =>
            obtain ⟨rfl, ⟨n5, rfl⟩⟩ := hcut
            have HT := HT3.out
            clear HT3
            by_cases c3 : M < E
            · have d3 : decide (M < E) = true := decide_eq_true c3
              by_cases c4 : N - at3 ≤ text
              · have d4 : decide (N - at3 ≤ text) = true := decide_eq_true c4
                rw [if_pos ⟨c3, c4⟩] at HT
                have HT2 : Aside0 ((⟨at3, row3, op3, base3, only3, text3, l3⟩ : RSt) = textsR b (⟨at_, row, op, base, only, text, l⟩ : RSt)) := ⟨by rw [HR.out]; exact HT⟩
                clear HT c3 c4
                go_wp2
                first | rw [Exit.noGoto_ret] | rw [Exit.noGoto_normal] | skip
                first | go_end0 | ((try simp only [Exit.inBlock, Exit.then]); refine bodyPost_ret (results_none rfl _ _ _) rfl ?_)
                exact ⟨rfl, by rw [← HT2.out]; exact ⟨V3, (show RR w0 _ g _ c0 b at3 row3 op3 base3 only3 text3 V3 l3 from by repeat (first | exact H3.out | exact H3.out.drewN _ | exact (H3.out.drewN _).drewN _ | (with_reducible first | apply RR.drew | apply RR.set1 | apply RR.set2 | apply RR.set3 | apply RR.set4 | apply RR.set5 | apply RR.set6)))⟩⟩
              · have d4 : decide (N - at3 ≤ text) = false := decide_eq_false c4
                rw [if_neg (fun h => c4 h.2)] at HT
                have HT2 := Aside0.mk HT
                clear HT c3 c4
                go_wp2_with (first | (go_at_call 20; (with_reducible refine (break_calls _ _ c0 b (by first | exact H3.out.q.C | exact (H3.out.q.drewN _).C | exact ((H3.out.q.drewN _).drewN _).C) H3.out.q.cap H3.out.q.len _ (by omega) (by omega)).mono ?_); rintro e w1 ⟨rfl, n1, rfl⟩) | (go_at_call 10; (with_reducible refine (add_calls w0 _ g _ c0 b at3 row3 op3 base3 only3 text3 V3 l3 (by repeat (first | exact H3.out | exact H3.out.drewN _ | exact (H3.out.drewN _).drewN _ | (with_reducible first | apply RR.drew | apply RR.set1 | apply RR.set2 | apply RR.set3 | apply RR.set4 | apply RR.set5 | apply RR.set6))) _ _ (by omega) (by omega) (by omega) (by omega)).mono ?_); rintro e w2 ⟨rfl, V5, h2⟩; have H5 := Aside0.mk h2; clear h2) | (go_at_call 8; (with_reducible refine (scnext_calls w0 _ g _ c0 b _ _ _ _ _ _ _ _ (by repeat (first | exact H5.out | exact H5.out.drewN _ | exact (H5.out.drewN _).drewN _ | (with_reducible first | apply RR.drew | apply RR.set1 | apply RR.set2 | apply RR.set3 | apply RR.set4 | apply RR.set5 | apply RR.set6)))).mono ?_); rintro e w3 ⟨rfl, h3⟩; have H6 := Aside0.mk h3; clear h3))
                go_roundg m
                case measure => omega
                case rel => exact ⟨nextR (addR 19 (E + brk b E) (⟨at3, row3, op3, base3, only3, text3, l3⟩ : RSt)), ⟨⟨K3.out.next 19 (by dsimp only; omega) lm1, HT2.out, by dsimp only [nextR, addR]; have := HM.out; omega⟩⟩, ⟨⟨V5, H6.out⟩⟩⟩
            · have d3 : decide (M < E) = false := decide_eq_false c3
              rw [if_neg (fun h => c3 h.1)] at HT
              have HT2 := Aside0.mk HT
              clear HT c3
              go_wp2_with (first | (go_at_call 20; (with_reducible refine (break_calls _ _ c0 b (by first | exact H3.out.q.C | exact (H3.out.q.drewN _).C | exact ((H3.out.q.drewN _).drewN _).C) H3.out.q.cap H3.out.q.len _ (by omega) (by omega)).mono ?_); rintro e w1 ⟨rfl, n1, rfl⟩) | (go_at_call 10; (with_reducible refine (add_calls w0 _ g _ c0 b at3 row3 op3 base3 only3 text3 V3 l3 (by repeat (first | exact H3.out | exact H3.out.drewN _ | exact (H3.out.drewN _).drewN _ | (with_reducible first | apply RR.drew | apply RR.set1 | apply RR.set2 | apply RR.set3 | apply RR.set4 | apply RR.set5 | apply RR.set6))) _ _ (by omega) (by omega) (by omega) (by omega)).mono ?_); rintro e w2 ⟨rfl, V5, h2⟩; have H5 := Aside0.mk h2; clear h2) | (go_at_call 8; (with_reducible refine (scnext_calls w0 _ g _ c0 b _ _ _ _ _ _ _ _ (by repeat (first | exact H5.out | exact H5.out.drewN _ | exact (H5.out.drewN _).drewN _ | (with_reducible first | apply RR.drew | apply RR.set1 | apply RR.set2 | apply RR.set3 | apply RR.set4 | apply RR.set5 | apply RR.set6)))).mono ?_); rintro e w3 ⟨rfl, h3⟩; have H6 := Aside0.mk h3; clear h3))
              go_roundg m
              case measure => omega
              case rel => exact ⟨nextR (addR 19 (E + brk b E) (⟨at3, row3, op3, base3, only3, text3, l3⟩ : RSt)), ⟨⟨K3.out.next 19 (by dsimp only; omega) lm1, HT2.out, by dsimp only [nextR, addR]; have := HM.out; omega⟩⟩, ⟨⟨V5, H6.out⟩⟩⟩
      · have d2 : (markR b at3 == 0) = false := beq_eq_false_iff_ne.mpr c2
        have HT : (⟨at3, row3, op3, base3, only3, text3, l3⟩ : RSt) = textsR b (⟨at_, row, op, base, only, text, l⟩ : RSt) := by
          have h_ := HX.out.2.1
          rw [HR.out]
          cases gk with
          | zero => exact h_
          | succ m => simp only [rowsR] at h_; rwa [if_neg (fun h => c2 h.2)] at h_
        have HT2 := Aside0.mk HT
        clear HT HX
        clear c2
        go_wp2
        go_quiet ((go_at_call 9; (with_reducible refine Calls.quiet_of (mark_calls _ g _ c0 b at3 row3 op3 base3 only3 text3 V3 (by first | exact H3.out.q | exact H3.out.q.drewN _ | exact (H3.out.q.drewN _).drewN _) at3 (by omega) (by omega)))))
        go_wp2
        first | rw [Exit.noGoto_ret] | rw [Exit.noGoto_normal] | skip
        first | go_end0 | ((try simp only [Exit.inBlock, Exit.then]); refine bodyPost_ret (results_none rfl _ _ _) rfl ?_)
        exact ⟨rfl, by rw [← HT2.out]; exact ⟨V3, (show RR w0 _ g _ c0 b at3 row3 op3 base3 only3 text3 V3 l3 from by repeat (first | exact H3.out | exact H3.out.drewN _ | exact (H3.out.drewN _).drewN _ | (with_reducible first | apply RR.drew | apply RR.set1 | apply RR.set2 | apply RR.set3 | apply RR.set4 | apply RR.set5 | apply RR.set6)))⟩⟩
    · have d1 : decide (at3 < (b.length : Int)) = false := decide_eq_false c1
      have HT : (⟨at3, row3, op3, base3, only3, text3, l3⟩ : RSt) = textsR b (⟨at_, row, op, base, only, text, l⟩ : RSt) := by
        have h_ := HX.out.2.1
        rw [HR.out]
        cases gk with
        | zero => exact h_
        | succ m => simp only [rowsR] at h_; rwa [if_neg (fun h => c1 h.1)] at h_
      have HT2 := Aside0.mk HT
      clear HT HX
      clear c1
      go_wp2
      go_quiet ((go_at_call 9; (with_reducible refine Calls.quiet_of (mark_calls _ g _ c0 b at3 row3 op3 base3 only3 text3 V3 (by first | exact H3.out.q | exact H3.out.q.drewN _ | exact (H3.out.q.drewN _).drewN _) at3 (by omega) (by omega)))))
      go_wp2
      first | rw [Exit.noGoto_ret] | rw [Exit.noGoto_normal] | skip
      first | go_end0 | ((try simp only [Exit.inBlock, Exit.then]); refine bodyPost_ret (results_none rfl _ _ _) rfl ?_)
      exact ⟨rfl, by rw [← HT2.out]; exact ⟨V3, (show RR w0 _ g _ c0 b at3 row3 op3 base3 only3 text3 V3 l3 from by repeat (first | exact H3.out | exact H3.out.drewN _ | exact (H3.out.drewN _).drewN _ | (with_reducible first | apply RR.drew | apply RR.set1 | apply RR.set2 | apply RR.set3 | apply RR.set4 | apply RR.set5 | apply RR.set6)))⟩⟩

end Go.Proofs.Ytagjfcogbnhmgaa.Rf
