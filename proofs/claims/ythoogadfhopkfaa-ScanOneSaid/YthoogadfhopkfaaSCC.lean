/- The scanner's function that reads a token of text. -/
import Derived.Test.YthoogadfhopkfaaSCB
import Derived.StillTailTactics
import Derived.IntWalk
namespace Go.Proofs.Ythoogadfhopkfaa.Sc
open Go.RowKit Go.Proofs.Ythoogadfhopkfaa.Q Go.Proofs.YthoogadfhopkfaaW.PrintWords Go.Proofs.YthoogadfhopkfaaW.PrintLast Go.Proofs.YthoogadfhopkfaaW.PrintMore
attribute [local go_sem] max2_int min2_int max_two min_two max_three min_three max_four min_four
set_option linter.unusedVariables false
set_option linter.unusedSimpArgs false
set_option maxHeartbeats 1000000
set_option maxRecDepth 100000

theorem headTo_le {b : List Int} {i : Int} (h : i < (b.length : Int)) : i < headTo b i ∧ headTo b i ≤ (b.length : Int) := by
  unfold headTo
  split
  · rename_i h_
    rcases Bool.or_eq_true _ _ |>.mp h_ with h_ | h_ <;> have := (th_true h_).1 <;> omega
  · omega
theorem head_le {b : List Int} {op i : Int} (h : i < (b.length : Int)) (h1 : 0 < head b op i) : i < head b op i ∧ head b op i ≤ (b.length : Int) := by
  have h2 := headTo_le h
  unfold head at h1 ⊢
  repeat' split
  all_goals simp_all

theorem text_calls (w0 W : World) (g : Nat) (A0 : Option Addr) (c0 : Nat) (b : List Int) (at_ : Int) (V : Value) (l : List S32) (op row base : Int) (dash : Bool) (hs : SR w0 W g A0 c0 b at_ V l op row base dash) (hk : Ok b ⟨at_, l, op, row, base, dash⟩) (h0 : 0 ≤ at_) (h1 : at_ < (b.length : Int)) :
    Calls Try.prog 22 #[.pointer (some ⟨g, 0, none⟩)] W fun e w' => e = .returned (.tuple #[]) ∧ SS w0 w' g A0 c0 b (textS b ⟨at_, l, op, row, base, dash⟩) := by
  have H := Aside0.mk hs
  have hc0 := hs.q.cell0
  have hc1 := hs.q.cell1
  have hc2 := hs.q.cell2
  have hc3 := hs.q.cell3
  have hc4 := hs.q.cell4
  have hc5 := hs.q.cell5
  have hc6 := hs.q.cell6
  have hf1 := blk_frozen hs.q.blk 1
  have hf3 := blk_frozen hs.q.blk 3
  have hf4 := blk_frozen hs.q.blk 4
  have hf5 := blk_frozen hs.q.blk 5
  have hf6 := blk_frozen hs.q.blk 6
  have hl := hs.q.len
  clear hs
  obtain ⟨ad, ea, hx⟩ := Kd.at_int H.out.q.C at_ h0 h1
  cases ea
  have q1 : (0 ≤ at_) = True := eq_true h0
  have q2 : (at_ < (b.length : Int)) = True := eq_true h1
  have hrow0 : 0 ≤ row := hk.r0
  have hrow1 : row ≤ at_ := hk.r1
  have hln : (l.length : Int) ≤ at_ := hk.n
  have hb0 : -1 ≤ base := hk.b0
  have hb1 : base ≤ at_ := hk.b1
  have HK := Aside0.mk hk
  clear hk
  by_cases c1 : rd b at_ = 39
  · have f1 : (rd b at_ == 39) = true := beq_iff_eq.mpr c1
    have hR : textS b ⟨at_, l, op, row, base, dash⟩ = tk 16 (single b at_) ⟨at_, l, op, row, base, dash⟩ := by unfold textS; exact if_pos c1
    rw [hR]
    clear hR c1
    go_enter Try.func22, Try.ntmps22
    go_wp2
    go_quiet (fail)
    go_wp2_with (first | (go_at_call 42; (with_reducible refine (single_calls _ g _ c0 b at_ V op row base dash (by first | exact H.out.q | exact H.out.q.drewN _) h0 h1).mono ?_); rintro e w1 ⟨rfl, n1, rfl⟩) | (go_at_call 31; (with_reducible refine (token_calls w0 _ g _ c0 b at_ V l op row base dash (by repeat (first | exact H.out | exact H.out.drewN _ | exact (H.out.drewN _).drewN _ | (with_reducible first | apply SR.set1 | apply SR.set3 | apply SR.set4 | apply SR.set5 | apply SR.set6))) _ _ (by omega) (by omega) (by omega) (by omega) (by omega)).mono ?_); rintro e w2 ⟨rfl, V2, h2⟩; have H2 := Aside0.mk h2; clear h2))
    first | go_end0 | ((try simp only [Exit.inBlock, Exit.then]); refine bodyPost_ret (results_none rfl _ _ _) rfl ?_)
    exact ⟨rfl, V2, H2.out⟩
  · have f1 : (rd b at_ == 39) = false := beq_eq_false_iff_ne.mpr c1
    by_cases c2 : rd b at_ = 34
    · have f2 : (rd b at_ == 34) = true := beq_iff_eq.mpr c2
      have hR : textS b ⟨at_, l, op, row, base, dash⟩ = tk 17 (double b at_) ⟨at_, l, op, row, base, dash⟩ := by unfold textS; exact (if_neg c1).trans (if_pos c2)
      rw [hR]
      clear hR c1 c2
      go_enter Try.func22, Try.ntmps22
      go_wp2
      go_quiet (fail)
      go_wp2_with (first | (go_at_call 43; (with_reducible refine (double_calls _ g _ c0 b at_ V op row base dash (by first | exact H.out.q | exact H.out.q.drewN _) h0 h1).mono ?_); rintro e w1 ⟨rfl, n1, rfl⟩) | (go_at_call 31; (with_reducible refine (token_calls w0 _ g _ c0 b at_ V l op row base dash (by repeat (first | exact H.out | exact H.out.drewN _ | exact (H.out.drewN _).drewN _ | (with_reducible first | apply SR.set1 | apply SR.set3 | apply SR.set4 | apply SR.set5 | apply SR.set6))) _ _ (by omega) (by omega) (by omega) (by omega) (by omega)).mono ?_); rintro e w2 ⟨rfl, V2, h2⟩; have H2 := Aside0.mk h2; clear h2))
      first | go_end0 | ((try simp only [Exit.inBlock, Exit.then]); refine bodyPost_ret (results_none rfl _ _ _) rfl ?_)
      exact ⟨rfl, V2, H2.out⟩
    · have f2 : (rd b at_ == 34) = false := beq_eq_false_iff_ne.mpr c2
      have hT : textS b ⟨at_, l, op, row, base, dash⟩ = if 0 < head b op at_ then texts b (if base < 0 then at_ - row - 1 else base) (tk 18 (head b op at_) ⟨at_, l, op, row, base, dash⟩) else if (nextS (strOfNums ((b.drop at_.toNat).take 4))).1 < 0 then tk 22 (at_ + 1) ⟨at_, l, op, row, base, dash⟩ else tk 15 (plain b op at_) ⟨at_, l, op, row, base, dash⟩ := by unfold textS; exact (if_neg c1).trans (if_neg c2)
      rw [hT]
      clear hT c1 c2
      by_cases c3 : 0 < head b op at_
      · have f3 : decide (head b op at_ > 0) = true := decide_eq_true c3
        have K2 : Aside0 (Ok b ⟨head b op at_, l ++ [⟨18, at_, head b op at_⟩], op, tkRow 18 (head b op at_) row, tkBase 18 at_ row base, tkDash 18 dash⟩) := ⟨HK.out.tk 18 (head_le h1 c3).1 (head_le h1 c3).2⟩
        rw [if_pos c3]
        have hq : 0 ≤ head b op at_ := by omega
        clear c3
        by_cases c4 : base < 0
        · have f4 : decide (base < 0) = true := decide_eq_true c4
          rw [if_pos c4]
          clear c4
          go_enter Try.func22, Try.ntmps22
          go_wp2
          go_quiet (fail)
          go_wp2_with (first | (go_at_call 44; (with_reducible refine (head_calls _ g _ c0 b at_ V op row base dash (by first | exact H.out.q | exact H.out.q.drewN _) h0 h1).mono ?_); rintro e w1 ⟨rfl, n1, rfl⟩) | (go_at_call 31; (with_reducible refine (token_calls w0 _ g _ c0 b at_ V l op row base dash (by repeat (first | exact H.out | exact H.out.drewN _ | exact (H.out.drewN _).drewN _ | (with_reducible first | apply SR.set1 | apply SR.set3 | apply SR.set4 | apply SR.set5 | apply SR.set6))) _ _ (by omega) (by omega) (by omega) (by omega) (by omega)).mono ?_); rintro e w2 ⟨rfl, V2, h2⟩; have H2 := Aside0.mk h2; clear h2) | (go_at_call 45; (with_reducible refine (texts_calls w0 _ g _ c0 b _ _ _ _ _ _ _ H2.out (at_ - row - 1) K2.out hq (by omega) (by omega)).mono ?_); rintro e w3 ⟨rfl, h3⟩; have H3 := Aside0.mk h3; clear h3))
          go_quiet (fail)
          go_wp2_with (first | (go_at_call 31; (with_reducible refine (token_calls w0 _ g _ c0 b at_ V l op row base dash (by repeat (first | exact H.out | exact H.out.drewN _ | exact (H.out.drewN _).drewN _ | (with_reducible first | apply SR.set1 | apply SR.set3 | apply SR.set4 | apply SR.set5 | apply SR.set6))) _ _ (by omega) (by omega) (by omega) (by omega) (by omega)).mono ?_); rintro e w2 ⟨rfl, V2, h2⟩; have H2 := Aside0.mk h2; clear h2) | (go_at_call 45; (with_reducible refine (texts_calls w0 _ g _ c0 b _ _ _ _ _ _ _ H2.out (at_ - row - 1) K2.out hq (by omega) (by omega)).mono ?_); rintro e w3 ⟨rfl, h3⟩; have H3 := Aside0.mk h3; clear h3))
          first | go_end0 | ((try simp only [Exit.inBlock, Exit.then]); refine bodyPost_ret (results_none rfl _ _ _) rfl ?_)
          exact ⟨rfl, H3.out⟩
        · have f4 : decide (base < 0) = false := decide_eq_false c4
          rw [if_neg c4]
          clear c4
          go_enter Try.func22, Try.ntmps22
          go_wp2
          go_quiet (fail)
          go_wp2_with (first | (go_at_call 44; (with_reducible refine (head_calls _ g _ c0 b at_ V op row base dash (by first | exact H.out.q | exact H.out.q.drewN _) h0 h1).mono ?_); rintro e w1 ⟨rfl, n1, rfl⟩) | (go_at_call 31; (with_reducible refine (token_calls w0 _ g _ c0 b at_ V l op row base dash (by repeat (first | exact H.out | exact H.out.drewN _ | exact (H.out.drewN _).drewN _ | (with_reducible first | apply SR.set1 | apply SR.set3 | apply SR.set4 | apply SR.set5 | apply SR.set6))) _ _ (by omega) (by omega) (by omega) (by omega) (by omega)).mono ?_); rintro e w2 ⟨rfl, V2, h2⟩; have H2 := Aside0.mk h2; clear h2) | (go_at_call 45; (with_reducible refine (texts_calls w0 _ g _ c0 b _ _ _ _ _ _ _ H2.out base K2.out hq (by omega) (by omega)).mono ?_); rintro e w3 ⟨rfl, h3⟩; have H3 := Aside0.mk h3; clear h3))
          first | go_end0 | ((try simp only [Exit.inBlock, Exit.then]); refine bodyPost_ret (results_none rfl _ _ _) rfl ?_)
          exact ⟨rfl, H3.out⟩
      · have f3 : decide (head b op at_ > 0) = false := decide_eq_false c3
        rw [if_neg c3]
        clear c3
        have q3 : (at_ ≤ (b.length : Int)) = True := eq_true (by omega)
        obtain ⟨i0, hi0, _, hsz, _⟩ := info_parts (P := Try.prog) info5
        obtain ⟨A2, hcut, hA, hcap⟩ := print_drop_of (P := Try.prog) (Value.int .u8) (0 : Int) 23 5 .i64 Try.underlying23 hi0 hsz (some ad) c0 b at_ h0 (by omega) H.out.q.cap
        have NC : Aside0 (∀ w' : World, Below w0.heap.size w0 w' → Kd.C (Kd.int .u8) w' A2 (b.drop at_.toNat).length (b.drop at_.toNat)) := ⟨fun w' hb => Kd.C_of_reads (h1 := fun _ => rfl) (hA w' (Kd.reads_of_C (Kd.C_below H.out.C hb)))⟩
        have hlen : 0 < (b.drop at_.toNat).length := by rw [List.length_drop]; omega
        have HF0 : runes_Next.f (b.drop at_.toNat) = some (nextS (strOfNums ((b.drop at_.toNat).take 4))) := by unfold runes_Next.f; rw [if_neg (by omega)]
        generalize hys : b.drop at_.toNat = ys at *
        clear hys hlen hA hi0 hsz
        have HCAP := Aside0.mk hcap
        generalize nextS (strOfNums (ys.take 4)) = r at *
        obtain ⟨r1, r2⟩ := r
        have HF := Aside0.mk HF0
        clear HF0 hcap
        dsimp only
        by_cases c5 : r1 < 0
        · have f5 : decide (r1 < 0) = true := decide_eq_true c5
          rw [if_pos c5]
          clear c5
          go_enter Try.func22, Try.ntmps22
          go_wp2
          go_quiet (fail)
          go_wp2_with (first | (go_at_call 44; (with_reducible refine (head_calls _ g _ c0 b at_ V op row base dash (by first | exact H.out.q | exact H.out.q.drewN _) h0 h1).mono ?_); rintro e w1 ⟨rfl, n1, rfl⟩))
          have H1 : Aside0 (SR w0 (W.drewN (nq + n1)) g (some ad) c0 b at_ V l op row base dash) := ⟨H.out.drewN _⟩
          generalize W.drewN (nq + n1) = w1 at *
          clear hc0 hc1 hc2 hc3 hc4 hc5 hc6 hf1 hf3 hf4 hf5 hf6 hx
          have hc0 := H1.out.q.cell0
          have hc1 := H1.out.q.cell1
          have hc2 := H1.out.q.cell2
          have hc3 := H1.out.q.cell3
          have hc4 := H1.out.q.cell4
          have hc5 := H1.out.q.cell5
          have hc6 := H1.out.q.cell6
          go_region_held3 (fun w' => w'.cell? ⟨g, 0, none⟩ = some (.slice (some ad) b.length c0) ∧ w'.cell? ⟨g, 1, none⟩ = some (.int .i64 at_)) (go_keep) ((go_at_call 46; (with_reducible refine (runes_Next.calls A2 (c0 - at_.toNat) ys r1 r2 _ (NC.out _ (below_drew H1.out.B)) HCAP.out HF.out).mono ?_); rintro e' w4 ⟨rfl, hb4⟩; have H4 := Aside0.mk (H1.out.below (below_then (below_drew (Below.refl _ _)) (Nat.le_refl _) hb4)); have kc0 := H4.out.q.cell0; have kc1 := H4.out.q.cell1; have kc2 := H4.out.q.cell2; have kc3 := H4.out.q.cell3; have kc4 := H4.out.q.cell4; have kc5 := H4.out.q.cell5; have kc6 := H4.out.q.cell6; clear hb4))
          go_wp2_with (first | (go_at_call 31; (with_reducible refine (token_calls w0 _ g _ c0 b at_ V l op row base dash (by repeat (first | exact H4.out | exact H4.out.drewN _ | exact (H4.out.drewN _).drewN _ | (with_reducible first | apply SR.set1 | apply SR.set3 | apply SR.set4 | apply SR.set5 | apply SR.set6))) _ _ (by omega) (by omega) (by omega) (by omega) (by omega)).mono ?_); rintro e w2 ⟨rfl, V2, h2⟩; have H2 := Aside0.mk h2; clear h2))
          first | go_end0 | ((try simp only [Exit.inBlock, Exit.then]); refine bodyPost_ret (results_none rfl _ _ _) rfl ?_)
          exact ⟨rfl, V2, H2.out⟩
        · have f5 : decide (r1 < 0) = false := decide_eq_false c5
          rw [if_neg c5]
          clear c5
          go_enter Try.func22, Try.ntmps22
          go_wp2
          go_quiet (fail)
          go_wp2_with (first | (go_at_call 44; (with_reducible refine (head_calls _ g _ c0 b at_ V op row base dash (by first | exact H.out.q | exact H.out.q.drewN _) h0 h1).mono ?_); rintro e w1 ⟨rfl, n1, rfl⟩))
          have H1 : Aside0 (SR w0 (W.drewN (nq + n1)) g (some ad) c0 b at_ V l op row base dash) := ⟨H.out.drewN _⟩
          generalize W.drewN (nq + n1) = w1 at *
          clear hc0 hc1 hc2 hc3 hc4 hc5 hc6 hf1 hf3 hf4 hf5 hf6 hx
          have hc0 := H1.out.q.cell0
          have hc1 := H1.out.q.cell1
          have hc2 := H1.out.q.cell2
          have hc3 := H1.out.q.cell3
          have hc4 := H1.out.q.cell4
          have hc5 := H1.out.q.cell5
          have hc6 := H1.out.q.cell6
          go_region_held3 (fun w' => w'.cell? ⟨g, 0, none⟩ = some (.slice (some ad) b.length c0) ∧ w'.cell? ⟨g, 1, none⟩ = some (.int .i64 at_)) (go_keep) ((go_at_call 46; (with_reducible refine (runes_Next.calls A2 (c0 - at_.toNat) ys r1 r2 _ (NC.out _ (below_drew H1.out.B)) HCAP.out HF.out).mono ?_); rintro e' w4 ⟨rfl, hb4⟩; have H4 := Aside0.mk (H1.out.below (below_then (below_drew (Below.refl _ _)) (Nat.le_refl _) hb4)); have kc0 := H4.out.q.cell0; have kc1 := H4.out.q.cell1; have kc2 := H4.out.q.cell2; have kc3 := H4.out.q.cell3; have kc4 := H4.out.q.cell4; have kc5 := H4.out.q.cell5; have kc6 := H4.out.q.cell6; clear hb4))
          go_wp2_with (first | (go_at_call 47; (with_reducible refine (plain_calls _ g _ c0 b at_ V op row base dash H4.out.q h0 h1).mono ?_); rintro e w5 ⟨rfl, hb5⟩; have H5 := Aside0.mk (H4.out.below hb5); clear hb5) | (go_at_call 31; (with_reducible refine (token_calls w0 _ g _ c0 b at_ V l op row base dash (by repeat (first | exact H5.out | exact H5.out.drewN _ | exact (H5.out.drewN _).drewN _ | (with_reducible first | apply SR.set1 | apply SR.set3 | apply SR.set4 | apply SR.set5 | apply SR.set6))) _ _ (by omega) (by omega) (by omega) (by omega) (by omega)).mono ?_); rintro e w2 ⟨rfl, V2, h2⟩; have H2 := Aside0.mk h2; clear h2))
          first | go_end0 | ((try simp only [Exit.inBlock, Exit.then]); refine bodyPost_ret (results_none rfl _ _ _) rfl ?_)
          exact ⟨rfl, V2, H2.out⟩

end Go.Proofs.Ythoogadfhopkfaa.Sc
