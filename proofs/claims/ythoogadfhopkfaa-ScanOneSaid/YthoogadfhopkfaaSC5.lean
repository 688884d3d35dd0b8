/- The scanner's functions that only look: heads, the last token's kind. -/
import Derived.Test.YthoogadfhopkfaaSC4
import Derived.IntWalk
namespace Go.Proofs.Ythoogadfhopkfaa.Sc
open Go.RowKit Go.Proofs.Ythoogadfhopkfaa.Q Go.Proofs.YthoogadfhopkfaaW.PrintWords Go.Proofs.YthoogadfhopkfaaW.PrintLast Go.Proofs.YthoogadfhopkfaaW.PrintMore
attribute [local go_sem] max2_int min2_int max_two min_two max_three min_three max_four min_four
set_option linter.unusedVariables false
set_option linter.unusedSimpArgs false
set_option maxHeartbeats 8000000
set_option maxRecDepth 100000

theorem head_calls (W : World) (g : Nat) (A0 : Option Addr) (c0 : Nat) (b : List Int) (at_ : Int) (V : Value) (op row base : Int) (dash : Bool) (hs : SQ W g A0 c0 b at_ V op row base dash) (h0 : 0 ≤ at_) (h1 : at_ < (b.length : Int)) :
    Calls Try.prog 44 #[.pointer (some ⟨g, 0, none⟩)] W fun e w' => e = .returned (.int .i64 (head b op at_)) ∧ ∃ n, w' = W.drewN n := by
  have H := Aside0.mk hs
  have hc0 := hs.cell0
  have hc1 := hs.cell1
  have hc3 := hs.cell3
  have hl := hs.len
  clear hs
  have B0 := Aside0.mk h0
  have B1 := Aside0.mk h1
  obtain ⟨ad, ea, hx⟩ := Kd.at_int H.out.C at_ h0 h1
  cases ea
  have q1 : (0 ≤ at_) = True := eq_true h0
  have q2 : (at_ < (b.length : Int)) = True := eq_true h1
  by_cases o1 : op > 0
  · have d1 : decide (op > 0) = true := decide_eq_true o1
    have d2 : decide (0 < op) = true := decide_eq_true o1
    have he : head b op at_ = 0 := by simp [head, o1]
    rw [he]
    clear he
    go_enter Try.func44, Try.ntmps44
    go_wp2
    go_quiet (fail)
    go_wp2
    go_ret
    exact ⟨rfl, by repeat (first | exact dr0 _ | refine dr1 ?_ _)⟩
  · have d1 : decide (op > 0) = false := decide_eq_false o1
    have d2 : decide (0 < op) = false := decide_eq_false o1
    by_cases c0 : rd b at_ = 124 ∨ rd b at_ = 62
    · have he : head b op at_ = if headOk b at_ then headTo b at_ else 0 := by simp [head, o1, c0]
      have HT : headTo b at_ = at_ + 1 ∨ (headTo b at_ = at_ + 2 ∧ at_ + 1 < (b.length : Int)) := by
        unfold headTo
        split
        · rename_i h_
          rcases Bool.or_eq_true _ _ |>.mp h_ with h_ | h_
          · exact .inr ⟨rfl, (th_true h_).1⟩
          · exact .inr ⟨rfl, (th_true h_).1⟩
        · exact .inl rfl
      have hp := upto_le (n := (b.length : Int)) (i := headTo b at_) (p := fun j => blank (rd b j)) (by omega)
      have P0 : Aside0 (0 ≤ headAt b at_) := ⟨by have : headTo b at_ ≤ headAt b at_ := hp.1; omega⟩
      have P1 : Aside0 (headAt b at_ ≤ (b.length : Int)) := ⟨hp.2⟩
      clear hp
      generalize head b op at_ = R at *
      have HR := Aside0.mk he
      clear he
      by_cases t1 : th b (at_ + 1) 43 = true <;> by_cases t2 : th b (at_ + 1) 45 = true
      all_goals
        try simp only [Bool.not_eq_true] at t1 t2
        have T : headTo b at_ = (if th b (at_ + 1) 43 || th b (at_ + 1) 45 then at_ + 1 + 1 else at_ + 1) := by unfold headTo; split <;> omega
        rw [t1, t2] at T
        simp only [Bool.or_true, Bool.or_false, Bool.true_or, Bool.false_or, Bool.or_self, ↓reduceIte, Bool.false_eq_true] at T
        have TA : headAt b at_ = blanks b _ := congrArg (blanks b) T
        have TL : headTo b at_ ≤ (b.length : Int) := by omega
        rw [T] at TL
        have TT : ((headAt b at_ == line b (headAt b at_)) = true ∧ True) ∨ (headAt b at_ == line b (headAt b at_)) = false ∧ (decide (headAt b at_ > headTo b at_) = false ∧ True ∨ decide (headAt b at_ > headTo b at_) = true ∧ (th b (headAt b at_) 35 = true ∨ th b (headAt b at_) 35 = false)) := by
          cases headAt b at_ == line b (headAt b at_) <;> cases decide (headAt b at_ > headTo b at_) <;> cases th b (headAt b at_) 35 <;> simp
        rcases TT with ⟨t3, t4⟩ | ⟨t3, ⟨t4, t5⟩ | ⟨t4, t5 | t5⟩⟩
        all_goals
          have HO : headOk b at_ = (headAt b at_ == line b (headAt b at_) || (decide (headAt b at_ > headTo b at_) && th b (headAt b at_) 35)) := rfl
          rw [t3] at HO
          try rw [t4] at HO
          try rw [t5] at HO
          try simp only [Bool.true_or, Bool.false_or, Bool.false_and, Bool.true_and] at HO
          replace HO := Aside0.mk (And.intro HO T)
          rw [TA] at t3 P0 P1
          try rw [TA] at t4
          try rw [TA] at t5
          try rw [T] at t4
          clear T TA HT
          rcases c0 with c0 | c0
          all_goals
            have f1 : (rd b at_ != 124) = (rd b at_ != 124) := rfl
            first | have f1 : (rd b at_ != 124) = false := bne_eq_false_iff_eq.mpr c0 | have f1 : (rd b at_ != 124) = true := bne_iff_ne.mpr (by omega)
            first | have f2 : (rd b at_ != 62) = false := bne_eq_false_iff_eq.mpr c0 | have f2 : (rd b at_ != 62) = true := bne_iff_ne.mpr (by omega)
            clear c0
            go_enter Try.func44, Try.ntmps44
            go_wp2
            go_quiet (fail)
            go_wp2_with (first | (go_at_call 36; (with_reducible refine (there _ g _ c0 b at_ V op row base dash (by first | exact H.out | exact H.out.drewN _) _ _ (by first | omega | exact P0.out)).mono ?_); rintro e w1 ⟨rfl, n1, rfl⟩) | (go_at_call 34; (with_reducible refine (blanks_calls _ g _ c0 b at_ V op row base dash (by first | exact H.out | exact H.out.drewN _) _ (by first | omega | (have := B0.out; omega)) (by first | omega | (have := B1.out; omega))).mono ?_); rintro e w1 ⟨rfl, n1, rfl⟩) | (go_at_call 37; (with_reducible refine (line_calls _ g _ c0 b at_ V op row base dash (by first | exact H.out | exact H.out.drewN _) _ (by have := P0.out; omega) (by have := P1.out; omega)).mono ?_); rintro e w1 ⟨rfl, n1, rfl⟩))
            go_ret
            exact ⟨by rw [HR.out, HO.out.1, HO.out.2]; rfl, by repeat (first | exact dr0 _ | refine dr1 ?_ _)⟩
    · have he : head b op at_ = 0 := by simp [head, o1, c0]
      rw [he]
      have f1 : (rd b at_ != 124) = true := bne_iff_ne.mpr (fun h => c0 (.inl h))
      have f2 : (rd b at_ != 62) = true := bne_iff_ne.mpr (fun h => c0 (.inr h))
      clear he c0
      go_enter Try.func44, Try.ntmps44
      go_wp2
      go_quiet (fail)
      go_wp2
      go_ret
      exact ⟨rfl, by repeat (first | exact dr0 _ | refine dr1 ?_ _)⟩

theorem last_calls (W : World) (g : Nat) (A0 : Option Addr) (c0 : Nat) (b : List Int) (at_ : Int) (V : Value) (op row base : Int) (dash : Bool) (hs : SQ W g A0 c0 b at_ V op row base dash) (l : List S32) (A2 : Option Addr) (c2 : Nat) (hV : V = .slice A2 l.length c2) (hC : Kd.C k32 W A2 l.length l) (hl1 : (l.length : Int) ≤ 140737488355328) :
    Calls Try.prog 35 #[.pointer (some ⟨g, 0, none⟩)] W fun e w' => e = .returned (.int .i64 (last l)) ∧ ∃ n, w' = W.drewN n := by
  have H := Aside0.mk hs
  have hc2 := hs.cell2
  have hl := hs.len
  clear hs
  subst hV
  by_cases h0 : l = []
  · subst h0
    have he : last ([] : List S32) = 0 := rfl
    rw [he]
    go_enter Try.func35, Try.ntmps35
    go_wp2
    go_ret
    exact ⟨rfl, by repeat (first | exact dr0 _ | refine dr1 ?_ _)⟩
  · have hp : 0 < l.length := List.length_pos_iff.mpr h0
    have e0 : ((l.length : Int) == 0) = false := beq_eq_false_iff_ne.mpr (by omega)
    have he : last l = (rd_T32 l ((l.length : Int) - 1)).f0 := by simp [last, h0]
    obtain ⟨j, hj⟩ : ∃ j : Int, j = (l.length : Int) - 1 := ⟨_, rfl⟩
    rw [← hj] at he
    obtain ⟨ad, ea, hx0, hx1, hx2⟩ := at_T32 hC j (by omega) (by omega)
    cases ea
    rw [he]
    clear he
    have q1 : 0 ≤ j := by omega
    have q2 : j < (l.length : Int) := by omega
    have w1 : IntKind.i64.wrap ((l.length : Int) - 1) = j := (IntWalk.i64_in _ (by omega)).trans hj.symm
    clear hj
    replace q1 := eq_true q1
    replace q2 := eq_true q2
    go_enter Try.func35, Try.ntmps35
    go_wp2
    repeat (go_quiet (fail); try go_wp2)
    go_ret
    exact ⟨rfl, by repeat (first | exact dr0 _ | refine dr1 ?_ _)⟩

end Go.Proofs.Ythoogadfhopkfaa.Sc
