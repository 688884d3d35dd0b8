/- The scanner's functions that try to lay a token of signs. -/
import Derived.Test.YthoogadfhopkfaaSC8
namespace Go.Proofs.Ythoogadfhopkfaa.Sc
open Go.RowKit Go.Proofs.Ythoogadfhopkfaa.Q Go.Proofs.YthoogadfhopkfaaW.PrintWords Go.Proofs.YthoogadfhopkfaaW.PrintLast Go.Proofs.YthoogadfhopkfaaW.PrintMore
attribute [local go_sem] max2_int min2_int max_two min_two max_three min_three max_four min_four
set_option linter.unusedVariables false
set_option linter.unusedSimpArgs false
set_option maxHeartbeats 1000000
set_option maxRecDepth 100000

theorem prop_le (b : List Int) (i : Int) (h0 : 0 ≤ i) (h1 : i < (b.length : Int)) : 0 ≤ (prop b i).2 ∧ (prop b i).2 ≤ (b.length : Int) := by
  have ht := upto_le (n := (b.length : Int)) (i := i + 1) (p := fun j => name (rd b j) || rd b j == 33) (by omega)
  have hn := upto_le (n := (b.length : Int)) (i := i + 1) (p := fun j => name (rd b j)) (by omega)
  unfold prop
  repeat' split
  all_goals simp only [tag, names] at *
  all_goals omega
theorem sign_calls (w0 W : World) (g : Nat) (A0 : Option Addr) (c0 : Nat) (b : List Int) (at_ : Int) (V : Value) (l : List S32) (op row base : Int) (dash : Bool) (hs : SR w0 W g A0 c0 b at_ V l op row base dash) (h0 : 0 ≤ at_) (h1 : at_ < (b.length : Int)) (r0 : 0 ≤ row) (r1 : row ≤ at_) (hn : (l.length : Int) ≤ 16384) (o0 : 0 ≤ op) (o1 : op ≤ 16384) :
    Calls Try.prog 21 #[.pointer (some ⟨g, 0, none⟩)] W fun e w' => e = .returned (.bool (signS b ⟨at_, l, op, row, base, dash⟩).isSome) ∧ SS w0 w' g A0 c0 b ((signS b ⟨at_, l, op, row, base, dash⟩).getD ⟨at_, l, op, row, base, dash⟩) := by
  have H := Aside0.mk hs
  have hc0 := hs.q.cell0
  have hc1 := hs.q.cell1
  have hc2 := hs.q.cell2
  have hc3 := hs.q.cell3
  have hc4 := hs.q.cell4
  have hc5 := hs.q.cell5
  have hc6 := hs.q.cell6
  have hf1 := blk_frozen hs.q.blk 1
  have hf3 := blk_frozen hs.q.blk 3
  have hf4 := blk_frozen hs.q.blk 4
  have hf5 := blk_frozen hs.q.blk 5
  have hf6 := blk_frozen hs.q.blk 6
  have hl := hs.q.len
  clear hs
  have BR := Aside0.mk (brackets_calls w0 W g A0 c0 b at_ V l op row base dash H.out h0 h1 o0 o1)
  by_cases k : (bra b op at_).1 = 0
  · have k2 : (bra b op at_).2 = op := by
      have h := k
      unfold bra at h ⊢
      repeat' split
      all_goals simp_all
    replace BR := BR.out
    rw [k, k2] at BR
    replace BR := Aside0.mk BR
    clear k2
    have hpr := prop_le b at_ h0 h1
    by_cases d : dashS b ⟨at_, l, op, row, base, dash⟩ = true
    · have ds : th b at_ 45 = true ∧ spc b (at_ + 1) = true ∧ op = 0 ∧ dash = true := by simpa [dashS] using d
      have t1 : th b at_ 45 = true := ds.1
      have t2 : spc b (at_ + 1) = true := ds.2.1
      have t3 : (op == 0) = true := beq_iff_eq.mpr ds.2.2.1
      have t4 : dash = true := ds.2.2.2
      have hR : signS b ⟨at_, l, op, row, base, dash⟩ = some (tk 5 (at_ + 1) ⟨at_, l, op, row, base, dash⟩) := by unfold signS; dsimp only; rw [if_neg (show ¬ (bra b op at_).1 ≠ 0 from fun h => h k), if_pos d]
      rw [hR]
      clear hR d ds
      go_enter Try.func21, Try.ntmps21
      go_wp2_with (first | (go_at_call 38; (with_reducible refine (BR.out).mono ?_); rintro e w2 ⟨rfl, h2⟩; have H3 := Aside0.mk h2; have gc0 := h2.q.cell0; have gc1 := h2.q.cell1; have gc2 := h2.q.cell2; have gc3 := h2.q.cell3; have gc4 := h2.q.cell4; have gc5 := h2.q.cell5; have gc6 := h2.q.cell6; have gf1 := blk_frozen h2.q.blk 1; have gf3 := blk_frozen h2.q.blk 3; have gf4 := blk_frozen h2.q.blk 4; have gf5 := blk_frozen h2.q.blk 5; have gf6 := blk_frozen h2.q.blk 6; clear h2) | (go_at_call 36; (with_reducible refine (there _ g _ c0 b at_ V op row base dash (by first | exact H3.out.q | exact H3.out.q.drewN _ | exact (H3.out.q.drewN _).drewN _) _ _ (by omega)).mono ?_); rintro e w1 ⟨rfl, n1, rfl⟩) | (go_at_call 39; (with_reducible refine (space_calls _ g _ c0 b at_ V op row base dash (by first | exact H3.out.q | exact H3.out.q.drewN _ | exact (H3.out.q.drewN _).drewN _) _ (by omega)).mono ?_); rintro e w1 ⟨rfl, n1, rfl⟩) | (go_at_call 40; (with_reducible refine (colon_calls _ g _ c0 b at_ V op row base dash (by first | exact H3.out.q | exact H3.out.q.drewN _ | exact (H3.out.q.drewN _).drewN _) _ (by omega) (by omega)).mono ?_); rintro e w1 ⟨rfl, n1, rfl⟩) | (go_at_call 41; (with_reducible refine (prop_calls _ g _ c0 b at_ V op row base dash (by first | exact H3.out.q | exact H3.out.q.drewN _ | exact (H3.out.q.drewN _).drewN _) (by omega) (by omega)).mono ?_); rintro e w1 ⟨rfl, n1, rfl⟩) | (go_at_call 31; (with_reducible refine (token_calls w0 _ g _ c0 b at_ V l op row base dash (by repeat (first | exact H3.out | exact H3.out.drewN _ | exact (H3.out.drewN _).drewN _ | (with_reducible first | apply SR.set1 | apply SR.set3 | apply SR.set4 | apply SR.set5 | apply SR.set6))) _ _ (by omega) (by omega) (by omega) (by omega) (by omega)).mono ?_); rintro e w2 ⟨rfl, V2, h2⟩; have H2 := Aside0.mk h2; clear h2))
      go_ret
      exact ⟨rfl, V2, H2.out⟩
    · have dd : th b at_ 45 = false ∨ (th b at_ 45 = true ∧ spc b (at_ + 1) = false) ∨ (th b at_ 45 = true ∧ spc b (at_ + 1) = true ∧ (op == 0) = false) ∨ (th b at_ 45 = true ∧ spc b (at_ + 1) = true ∧ (op == 0) = true ∧ dash = false) := by
        unfold dashS at d
        cases h1_ : th b at_ 45 <;> cases h2_ : spc b (at_ + 1) <;> cases h3_ : (op == 0) <;> cases h4_ : dash <;> simp_all
      have ND : ¬ dashS b ⟨at_, l, op, row, base, dash⟩ = true := d
      have ND := Aside0.mk ND
      clear d
      by_cases co : colon b op at_ = true
      · have hR : signS b ⟨at_, l, op, row, base, dash⟩ = some (tk 6 (at_ + 1) ⟨at_, l, op, row, base, dash⟩) := by unfold signS; dsimp only; rw [if_neg (show ¬ (bra b op at_).1 ≠ 0 from fun h => h k), if_neg ND.out, if_pos co]
        rw [hR]
        clear hR
        rcases dd with t1 | ⟨t1, t2⟩ | ⟨t1, t2, t3⟩ | ⟨t1, t2, t3, t4⟩
        all_goals
          go_enter Try.func21, Try.ntmps21
          go_wp2_with (first | (go_at_call 38; (with_reducible refine (BR.out).mono ?_); rintro e w2 ⟨rfl, h2⟩; have H3 := Aside0.mk h2; have gc0 := h2.q.cell0; have gc1 := h2.q.cell1; have gc2 := h2.q.cell2; have gc3 := h2.q.cell3; have gc4 := h2.q.cell4; have gc5 := h2.q.cell5; have gc6 := h2.q.cell6; have gf1 := blk_frozen h2.q.blk 1; have gf3 := blk_frozen h2.q.blk 3; have gf4 := blk_frozen h2.q.blk 4; have gf5 := blk_frozen h2.q.blk 5; have gf6 := blk_frozen h2.q.blk 6; clear h2) | (go_at_call 36; (with_reducible refine (there _ g _ c0 b at_ V op row base dash (by first | exact H3.out.q | exact H3.out.q.drewN _ | exact (H3.out.q.drewN _).drewN _) _ _ (by omega)).mono ?_); rintro e w1 ⟨rfl, n1, rfl⟩) | (go_at_call 39; (with_reducible refine (space_calls _ g _ c0 b at_ V op row base dash (by first | exact H3.out.q | exact H3.out.q.drewN _ | exact (H3.out.q.drewN _).drewN _) _ (by omega)).mono ?_); rintro e w1 ⟨rfl, n1, rfl⟩) | (go_at_call 40; (with_reducible refine (colon_calls _ g _ c0 b at_ V op row base dash (by first | exact H3.out.q | exact H3.out.q.drewN _ | exact (H3.out.q.drewN _).drewN _) _ (by omega) (by omega)).mono ?_); rintro e w1 ⟨rfl, n1, rfl⟩) | (go_at_call 41; (with_reducible refine (prop_calls _ g _ c0 b at_ V op row base dash (by first | exact H3.out.q | exact H3.out.q.drewN _ | exact (H3.out.q.drewN _).drewN _) (by omega) (by omega)).mono ?_); rintro e w1 ⟨rfl, n1, rfl⟩) | (go_at_call 31; (with_reducible refine (token_calls w0 _ g _ c0 b at_ V l op row base dash (by repeat (first | exact H3.out | exact H3.out.drewN _ | exact (H3.out.drewN _).drewN _ | (with_reducible first | apply SR.set1 | apply SR.set3 | apply SR.set4 | apply SR.set5 | apply SR.set6))) _ _ (by omega) (by omega) (by omega) (by omega) (by omega)).mono ?_); rintro e w2 ⟨rfl, V2, h2⟩; have H2 := Aside0.mk h2; clear h2))
          go_ret
          exact ⟨rfl, V2, H2.out⟩
      · have NC := Aside0.mk co
        replace co : colon b op at_ = false := by simpa using co
        by_cases pk : (prop b at_).1 = 0
        · have hR : signS b ⟨at_, l, op, row, base, dash⟩ = none := by unfold signS; dsimp only; rw [if_neg (show ¬ (bra b op at_).1 ≠ 0 from fun h => h k), if_neg ND.out, if_neg NC.out, if_neg (fun h => h pk)]
          rw [hR]
          clear hR
          have pk1 : ((prop b at_).1 != 0) = false := bne_eq_false_iff_eq.mpr pk
          clear pk
          rcases dd with t1 | ⟨t1, t2⟩ | ⟨t1, t2, t3⟩ | ⟨t1, t2, t3, t4⟩
          all_goals
            go_enter Try.func21, Try.ntmps21
            go_wp2_with (first | (go_at_call 38; (with_reducible refine (BR.out).mono ?_); rintro e w2 ⟨rfl, h2⟩; have H3 := Aside0.mk h2; have gc0 := h2.q.cell0; have gc1 := h2.q.cell1; have gc2 := h2.q.cell2; have gc3 := h2.q.cell3; have gc4 := h2.q.cell4; have gc5 := h2.q.cell5; have gc6 := h2.q.cell6; have gf1 := blk_frozen h2.q.blk 1; have gf3 := blk_frozen h2.q.blk 3; have gf4 := blk_frozen h2.q.blk 4; have gf5 := blk_frozen h2.q.blk 5; have gf6 := blk_frozen h2.q.blk 6; clear h2) | (go_at_call 36; (with_reducible refine (there _ g _ c0 b at_ V op row base dash (by first | exact H3.out.q | exact H3.out.q.drewN _ | exact (H3.out.q.drewN _).drewN _) _ _ (by omega)).mono ?_); rintro e w1 ⟨rfl, n1, rfl⟩) | (go_at_call 39; (with_reducible refine (space_calls _ g _ c0 b at_ V op row base dash (by first | exact H3.out.q | exact H3.out.q.drewN _ | exact (H3.out.q.drewN _).drewN _) _ (by omega)).mono ?_); rintro e w1 ⟨rfl, n1, rfl⟩) | (go_at_call 40; (with_reducible refine (colon_calls _ g _ c0 b at_ V op row base dash (by first | exact H3.out.q | exact H3.out.q.drewN _ | exact (H3.out.q.drewN _).drewN _) _ (by omega) (by omega)).mono ?_); rintro e w1 ⟨rfl, n1, rfl⟩) | (go_at_call 41; (with_reducible refine (prop_calls _ g _ c0 b at_ V op row base dash (by first | exact H3.out.q | exact H3.out.q.drewN _ | exact (H3.out.q.drewN _).drewN _) (by omega) (by omega)).mono ?_); rintro e w1 ⟨rfl, n1, rfl⟩) | (go_at_call 31; (with_reducible refine (token_calls w0 _ g _ c0 b at_ V l op row base dash (by repeat (first | exact H3.out | exact H3.out.drewN _ | exact (H3.out.drewN _).drewN _ | (with_reducible first | apply SR.set1 | apply SR.set3 | apply SR.set4 | apply SR.set5 | apply SR.set6))) _ _ (by omega) (by omega) (by omega) (by omega) (by omega)).mono ?_); rintro e w2 ⟨rfl, V2, h2⟩; have H2 := Aside0.mk h2; clear h2))
            go_ret
            exact ⟨rfl, V, (show SR w0 _ g _ c0 b at_ V l op row base dash from by repeat (first | exact H3.out | exact H3.out.drewN _ | exact (H3.out.drewN _).drewN _))⟩
        · have hR : signS b ⟨at_, l, op, row, base, dash⟩ = some (tk (prop b at_).1 (prop b at_).2 ⟨at_, l, op, row, base, dash⟩) := by unfold signS; dsimp only; rw [if_neg (show ¬ (bra b op at_).1 ≠ 0 from fun h => h k), if_neg ND.out, if_neg NC.out, if_pos pk]
          rw [hR]
          clear hR
          have pk1 : ((prop b at_).1 != 0) = true := bne_iff_ne.mpr pk
          clear pk
          rcases dd with t1 | ⟨t1, t2⟩ | ⟨t1, t2, t3⟩ | ⟨t1, t2, t3, t4⟩
          all_goals
            go_enter Try.func21, Try.ntmps21
            go_wp2_with (first | (go_at_call 38; (with_reducible refine (BR.out).mono ?_); rintro e w2 ⟨rfl, h2⟩; have H3 := Aside0.mk h2; have gc0 := h2.q.cell0; have gc1 := h2.q.cell1; have gc2 := h2.q.cell2; have gc3 := h2.q.cell3; have gc4 := h2.q.cell4; have gc5 := h2.q.cell5; have gc6 := h2.q.cell6; have gf1 := blk_frozen h2.q.blk 1; have gf3 := blk_frozen h2.q.blk 3; have gf4 := blk_frozen h2.q.blk 4; have gf5 := blk_frozen h2.q.blk 5; have gf6 := blk_frozen h2.q.blk 6; clear h2) | (go_at_call 36; (with_reducible refine (there _ g _ c0 b at_ V op row base dash (by first | exact H3.out.q | exact H3.out.q.drewN _ | exact (H3.out.q.drewN _).drewN _) _ _ (by omega)).mono ?_); rintro e w1 ⟨rfl, n1, rfl⟩) | (go_at_call 39; (with_reducible refine (space_calls _ g _ c0 b at_ V op row base dash (by first | exact H3.out.q | exact H3.out.q.drewN _ | exact (H3.out.q.drewN _).drewN _) _ (by omega)).mono ?_); rintro e w1 ⟨rfl, n1, rfl⟩) | (go_at_call 40; (with_reducible refine (colon_calls _ g _ c0 b at_ V op row base dash (by first | exact H3.out.q | exact H3.out.q.drewN _ | exact (H3.out.q.drewN _).drewN _) _ (by omega) (by omega)).mono ?_); rintro e w1 ⟨rfl, n1, rfl⟩) | (go_at_call 41; (with_reducible refine (prop_calls _ g _ c0 b at_ V op row base dash (by first | exact H3.out.q | exact H3.out.q.drewN _ | exact (H3.out.q.drewN _).drewN _) (by omega) (by omega)).mono ?_); rintro e w1 ⟨rfl, n1, rfl⟩) | (go_at_call 31; (with_reducible refine (token_calls w0 _ g _ c0 b at_ V l op row base dash (by repeat (first | exact H3.out | exact H3.out.drewN _ | exact (H3.out.drewN _).drewN _ | (with_reducible first | apply SR.set1 | apply SR.set3 | apply SR.set4 | apply SR.set5 | apply SR.set6))) _ _ (by omega) (by omega) (by omega) (by omega) (by omega)).mono ?_); rintro e w2 ⟨rfl, V2, h2⟩; have H2 := Aside0.mk h2; clear h2))
            go_ret
            exact ⟨rfl, V2, H2.out⟩
  · have k1 : ((bra b op at_).1 != 0) = true := bne_iff_ne.mpr k
    have hR : signS b ⟨at_, l, op, row, base, dash⟩ = some (tk (bra b op at_).1 (at_ + 1) ⟨at_, l, (bra b op at_).2, row, base, dash⟩) := by unfold signS; dsimp only; rw [if_pos k]
    rw [hR]
    clear hR k
    go_enter Try.func21, Try.ntmps21
    go_wp2_with (first | (go_at_call 38; (with_reducible refine (BR.out).mono ?_); rintro e w2 ⟨rfl, h2⟩; have H3 := Aside0.mk h2; have gc0 := h2.q.cell0; have gc1 := h2.q.cell1; have gc2 := h2.q.cell2; have gc3 := h2.q.cell3; have gc4 := h2.q.cell4; have gc5 := h2.q.cell5; have gc6 := h2.q.cell6; have gf1 := blk_frozen h2.q.blk 1; have gf3 := blk_frozen h2.q.blk 3; have gf4 := blk_frozen h2.q.blk 4; have gf5 := blk_frozen h2.q.blk 5; have gf6 := blk_frozen h2.q.blk 6; clear h2) | (go_at_call 31; (with_reducible refine (token_calls w0 _ g _ c0 b at_ V l (bra b op at_).2 row base dash (by repeat (first | exact H3.out | exact H3.out.drewN _ | exact (H3.out.drewN _).drewN _ | (with_reducible first | apply SR.set1 | apply SR.set3 | apply SR.set4 | apply SR.set5 | apply SR.set6))) _ _ (by omega) (by omega) (by omega) (by omega) (by omega)).mono ?_); rintro e w2 ⟨rfl, V2, h2⟩; have H2 := Aside0.mk h2; clear h2))
    go_ret
    exact ⟨rfl, V2, H2.out⟩

end Go.Proofs.Ythoogadfhopkfaa.Sc
