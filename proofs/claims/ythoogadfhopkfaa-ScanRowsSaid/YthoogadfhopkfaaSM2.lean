/- The scanner's functions that only look: heads, the last token's kind. -/
import Derived.Test.YthoogadfhopkfaaSM1
import Derived.IntWalk
namespace Go.Proofs.Ythoogadfhopkfaa.Sc
open Go.RowKit Go.Proofs.Ythoogadfhopkfaa.Q Go.Proofs.YthoogadfhopkfaaW.PrintWords Go.Proofs.YthoogadfhopkfaaW.PrintLast Go.Proofs.YthoogadfhopkfaaW.PrintMore
attribute [local go_sem] max2_int min2_int max_two min_two max_three min_three max_four min_four
set_option linter.unusedVariables false
set_option linter.unusedSimpArgs false
set_option maxHeartbeats 8000000
set_option maxRecDepth 100000

theorem head_calls (W : World) (g : Nat) (A0 : Option Addr) (c0 : Nat) (b : List Int) (at_ : Int) (V : Value) (op row base : Int) (dash : Bool) (hs : SQ W g A0 c0 b at_ V op row base dash) (h0 : 0 ≤ at_) (h1 : at_ < (b.length : Int)) :
    Calls Try.prog 44 #[.pointer (some ⟨g, 0, none⟩)] W fun e w' => e = .returned (.int .i64 (head b op at_)) ∧ ∃ n, w' = W.drewN n := by
  have H := Aside0.mk hs
  have hc0 := hs.cell0
  have hc1 := hs.cell1
  have hc3 := hs.cell3
  have hl := hs.len
  clear hs
  have B0 := Aside0.mk h0
  have B1 := Aside0.mk h1
  obtain ⟨ad, ea, hx⟩ := Kd.at_int H.out.C at_ h0 h1
  cases ea
  have q1 : (0 ≤ at_) = True := eq_true h0
  have q2 : (at_ < (b.length : Int)) = True := eq_true h1
  by_cases o1 : op > 0
  · have d1 : decide (op > 0) = true := decide_eq_true o1
    have d2 : decide (0 < op) = true := decide_eq_true o1
    have he : head b op at_ = 0 := by simp [head, o1]
    rw [he]
    clear he
    go_enter Try.func44, Try.ntmps44
    go_wp2
    go_quiet (fail)
    go_wp2
    go_ret
    exact ⟨rfl, by repeat (first | exact dr0 _ | refine dr1 ?_ _)⟩
  · have d1 : decide (op > 0) = false := decide_eq_false o1
    have d2 : decide (0 < op) = false := decide_eq_false o1
    by_cases c0 : rd b at_ = 124 ∨ rd b at_ = 62
    · have he : head b op at_ = if headOk b at_ then headTo b at_ else 0 := by simp [head, o1, c0]
      have HT : headTo b at_ = at_ + 1 ∨ (headTo b at_ = at_ + 2 ∧ at_ + 1 < (b.length : Int)) := by
        unfold headTo
        split
        · rename_i h_
          rcases Bool.or_eq_true _ _ |>.mp h_ with h_ | h_
          · exact .inr ⟨rfl, (th_true h_).1⟩
          · exact .inr ⟨rfl, (th_true h_).1⟩
        · exact .inl rfl
      have hp := upto_le (n := (b.length : Int)) (i := headTo b at_) (p := fun j => blank (rd b j)) (by omega)
      have P0 : Aside0 (0 ≤ headAt b at_) := ⟨by have : headTo b at_ ≤ headAt b at_ := hp.1; omega⟩
      have P1 : Aside0 (headAt b at_ ≤ (b.length : Int)) := ⟨hp.2⟩
      clear hp
      generalize head b op at_ = R at *
      have HR := Aside0.mk he
      clear he
      by_cases t1 : th b (at_ + 1) 43 = true <;> by_cases t2 : th b (at_ + 1) 45 = true
      all_goals
        try simp only [Bool.not_eq_true] at t1 t2
        have T : headTo b at_ = (if th b (at_ + 1) 43 || th b (at_ + 1) 45 then at_ + 1 + 1 else at_ + 1) := by unfold headTo; split <;> omega
        rw [t1, t2] at T
        simp only [Bool.or_true, Bool.or_false, Bool.true_or, Bool.false_or, Bool.or_self, ↓reduceIte, Bool.false_eq_true] at T
        have TA : headAt b at_ = blanks b _ := congrArg (blanks b) T
        have TL : headTo b at_ ≤ (b.length : Int) := by omega
        rw [T] at TL
        have TT : ((headAt b at_ == line b (headAt b at_)) = true ∧ True) ∨ (headAt b at_ == line b (headAt b at_)) = false ∧ (decide (headAt b at_ > headTo b at_) = false ∧ True ∨ decide (headAt b at_ > headTo b at_) = true ∧ (th b (headAt b at_) 35 = true ∨ th b (headAt b at_) 35 = false)) := by
          cases headAt b at_ == line b (headAt b at_) <;> cases decide (headAt b at_ > headTo b at_) <;> cases th b (headAt b at_) 35 <;> simp
        rcases TT with ⟨t3, t4⟩ | ⟨t3, ⟨t4, t5⟩ | ⟨t4, t5 | t5⟩⟩
        all_goals
          have HO : headOk b at_ = (headAt b at_ == line b (headAt b at_) || (decide (headAt b at_ > headTo b at_) && th b (headAt b at_) 35)) := rfl
          rw [t3] at HO
          try rw [t4] at HO
          try rw [t5] at HO
          try simp only [Bool.true_or, Bool.false_or, Bool.false_and, Bool.true_and] at HO
          replace HO := Aside0.mk (And.intro HO T)
          rw [TA] at t3 P0 P1
          try rw [TA] at t4
          try rw [TA] at t5
          try rw [T] at t4
          clear T TA HT
          rcases c0 with c0 | c0
          all_goals
            have f1 : (rd b at_ != 124) = (rd b at_ != 124) := rfl
            first | have f1 : (rd b at_ != 124) = false := bne_eq_false_iff_eq.mpr c0 | have f1 : (rd b at_ != 124) = true := bne_iff_ne.mpr (by omega)
            first | have f2 : (rd b at_ != 62) = false := bne_eq_false_iff_eq.mpr c0 | have f2 : (rd b at_ != 62) = true := bne_iff_ne.mpr (by omega)
            clear c0
            go_enter Try.func44, Try.ntmps44
            go_wp2
            go_quiet (fail)
            go_wp2_with (first | (go_at_call 36; (with_reducible refine (there _ g _ c0 b at_ V op row base dash (by first | exact H.out | exact H.out.drewN _) _ _ (by first | omega | exact P0.out)).mono ?_); rintro e w1 ⟨rfl, n1, rfl⟩) | (go_at_call 34; (with_reducible refine (blanks_calls _ g _ c0 b at_ V op row base dash (by first | exact H.out | exact H.out.drewN _) _ (by first | omega | (have := B0.out; omega)) (by first | omega | (have := B1.out; omega))).mono ?_); rintro e w1 ⟨rfl, n1, rfl⟩) | (go_at_call 37; (with_reducible refine (line_calls _ g _ c0 b at_ V op row base dash (by first | exact H.out | exact H.out.drewN _) _ (by have := P0.out; omega) (by have := P1.out; omega)).mono ?_); rintro e w1 ⟨rfl, n1, rfl⟩))
            go_ret
            exact ⟨by rw [HR.out, HO.out.1, HO.out.2]; rfl, by repeat (first | exact dr0 _ | refine dr1 ?_ _)⟩
    · have he : head b op at_ = 0 := by simp [head, o1, c0]
      rw [he]
      have f1 : (rd b at_ != 124) = true := bne_iff_ne.mpr (fun h => c0 (.inl h))
      have f2 : (rd b at_ != 62) = true := bne_iff_ne.mpr (fun h => c0 (.inr h))
      clear he c0
      go_enter Try.func44, Try.ntmps44
      go_wp2
      go_quiet (fail)
      go_wp2
      go_ret
      exact ⟨rfl, by repeat (first | exact dr0 _ | refine dr1 ?_ _)⟩

theorem last_calls (W : World) (g : Nat) (A0 : Option Addr) (c0 : Nat) (b : List Int) (at_ : Int) (V : Value) (op row base : Int) (dash : Bool) (hs : SQ W g A0 c0 b at_ V op row base dash) (l : List S32) (A2 : Option Addr) (c2 : Nat) (hV : V = .slice A2 l.length c2) (hC : Kd.C k32 W A2 l.length l) (hl1 : (l.length : Int) ≤ 140737488355328) :
    Calls Try.prog 35 #[.pointer (some ⟨g, 0, none⟩)] W fun e w' => e = .returned (.int .i64 (last l)) ∧ ∃ n, w' = W.drewN n := by
  have H := Aside0.mk hs
  have hc2 := hs.cell2
  have hl := hs.len
  clear hs
  subst hV
  by_cases h0 : l = []
  · subst h0
    have he : last ([] : List S32) = 0 := rfl
    rw [he]
    go_enter Try.func35, Try.ntmps35
    go_wp2
    go_ret
    exact ⟨rfl, by repeat (first | exact dr0 _ | refine dr1 ?_ _)⟩
  · have hp : 0 < l.length := List.length_pos_iff.mpr h0
    have e0 : ((l.length : Int) == 0) = false := beq_eq_false_iff_ne.mpr (by omega)
    have he : last l = (rd_T32 l ((l.length : Int) - 1)).f0 := by simp [last, h0]
    obtain ⟨j, hj⟩ : ∃ j : Int, j = (l.length : Int) - 1 := ⟨_, rfl⟩
    rw [← hj] at he
    obtain ⟨ad, ea, hx0, hx1, hx2⟩ := at_T32 hC j (by omega) (by omega)
    cases ea
    rw [he]
    clear he
    have q1 : 0 ≤ j := by omega
    have q2 : j < (l.length : Int) := by omega
    have w1 : IntKind.i64.wrap ((l.length : Int) - 1) = j := (IntWalk.i64_in _ (by omega)).trans hj.symm
    clear hj
    replace q1 := eq_true q1
    replace q2 := eq_true q2
    go_enter Try.func35, Try.ntmps35
    go_wp2
    repeat (go_quiet (fail); try go_wp2)
    go_ret
    exact ⟨rfl, by repeat (first | exact dr0 _ | refine dr1 ?_ _)⟩

end Go.Proofs.Ythoogadfhopkfaa.Sc
/- The scanner's functions that write its fields, and lay its tokens. -/
namespace Go.Proofs.Ythoogadfhopkfaa.Sc
open Go.RowKit Go.Proofs.Ythoogadfhopkfaa.Q Go.Proofs.YthoogadfhopkfaaW.PrintWords Go.Proofs.YthoogadfhopkfaaW.PrintLast Go.Proofs.YthoogadfhopkfaaW.PrintMore
attribute [local go_sem] max2_int min2_int max_two min_two max_three min_three max_four min_four
set_option linter.unusedVariables false
set_option linter.unusedSimpArgs false
set_option maxHeartbeats 1000000
set_option maxRecDepth 100000

/-- A scanner at block g of W, made behind w0, and its tokens. -/
structure SR (w0 W : World) (g : Nat) (A0 : Option Addr) (c0 : Nat) (b : List Int) (at_ : Int) (V : Value) (l : List S32) (op row base : Int) (dash : Bool) : Prop where
  q : SQ W g A0 c0 b at_ V op row base dash
  r : Kd.R k32 32 W w0.heap.size (fun _ => True) V l
  ge : w0.heap.size ≤ g
  B : Below w0.heap.size w0 W
  C : Kd.C (Kd.int .u8) w0 A0 b.length b
section
variable {w0 W : World} {g : Nat} {A0 : Option Addr} {c0 : Nat} {b : List Int} {at_ : Int} {V : Value} {l : List S32} {op row base : Int} {dash : Bool}
theorem SR.drewN (h : SR w0 W g A0 c0 b at_ V l op row base dash) (n : Nat) : SR w0 (W.drewN n) g A0 c0 b at_ V l op row base dash := ⟨h.q.drewN n, Kd.R_drewN h.r n, h.ge, pw_below_drewN h.B n, h.C⟩
theorem SR.below {W1 : World} (h : SR w0 W g A0 c0 b at_ V l op row base dash) (hb : Below W.heap.size W W1) : SR w0 W1 g A0 c0 b at_ V l op row base dash :=
  ⟨⟨blk_below h.q.blk hb, Kd.C_below h.q.C hb, h.q.cap, h.q.len⟩, Kd.R_below h.r hb, h.ge, below_step h.B hb, h.C⟩
theorem SR.step (h : SR w0 W g A0 c0 b at_ V l op row base dash) (j : Nat) (u : Value) {at2 : Int} {op2 row2 base2 : Int} {dash2 : Bool}
    (e : (#[.slice A0 b.length c0, .int .i64 at_, V, .int .i64 op, .int .i64 row, .int .i64 base, .bool dash] : Array Value).setIfInBounds j u = #[.slice A0 b.length c0, .int .i64 at2, V, .int .i64 op2, .int .i64 row2, .int .i64 base2, .bool dash2]) :
    SR w0 (W.setCell ⟨g, j, none⟩ u) g A0 c0 b at2 V l op2 row2 base2 dash2 :=
  have hB := below_set (j := j) (v := u) h.B h.ge
  ⟨⟨by rw [← e]; exact blk_set h.q.blk j u, Kd.C_below h.C hB, h.q.cap, h.q.len⟩, Kd.R_set h.r h.q.blk (by decide) j u, h.ge, hB, h.C⟩
theorem SR.set1 (h : SR w0 W g A0 c0 b at_ V l op row base dash) (x : Int) : SR w0 (W.setCell ⟨g, 1, none⟩ (.int .i64 x)) g A0 c0 b x V l op row base dash := h.step 1 _ rfl
theorem SR.set3 (h : SR w0 W g A0 c0 b at_ V l op row base dash) (x : Int) : SR w0 (W.setCell ⟨g, 3, none⟩ (.int .i64 x)) g A0 c0 b at_ V l x row base dash := h.step 3 _ rfl
theorem SR.set4 (h : SR w0 W g A0 c0 b at_ V l op row base dash) (x : Int) : SR w0 (W.setCell ⟨g, 4, none⟩ (.int .i64 x)) g A0 c0 b at_ V l op x base dash := h.step 4 _ rfl
theorem SR.set5 (h : SR w0 W g A0 c0 b at_ V l op row base dash) (x : Int) : SR w0 (W.setCell ⟨g, 5, none⟩ (.int .i64 x)) g A0 c0 b at_ V l op row x dash := h.step 5 _ rfl
theorem SR.set6 (h : SR w0 W g A0 c0 b at_ V l op row base dash) (x : Bool) : SR w0 (W.setCell ⟨g, 6, none⟩ (.bool x)) g A0 c0 b at_ V l op row base x := h.step 6 _ rfl
theorem SR.ne (h : SR w0 W g A0 c0 b at_ V l op row base dash) : some g ≠ V.ownBlock := Kd.R_ne h.r h.q.blk (by decide)
theorem SR.blk1 (h : SR w0 W g A0 c0 b at_ V l op row base dash) {w1 : World} (hg : W.grownBy w1 V.ownBlock) : w1.heap[g]? = some (.cells #[.slice A0 b.length c0, .int .i64 at_, V, .int .i64 op, .int .i64 row, .int .i64 base, .bool dash] 43 (0, 0)) := blk_grown h.q.blk hg h.ne
theorem SR.laid (h : SR w0 W g A0 c0 b at_ V l op row base dash) {w1 : World} {v1 : Value} {l1 : List S32} (hr : Kd.R k32 32 w1 w0.heap.size (fun _ => True) v1 l1) (hB : Below w0.heap.size w0 w1) (hg : W.grownBy w1 V.ownBlock) :
    SR w0 (w1.setCell ⟨g, 2, none⟩ v1) g A0 c0 b at_ v1 l1 op row base dash :=
  have hB2 := below_set (j := 2) (v := v1) hB h.ge
  ⟨⟨blk_set (h.blk1 hg) 2 v1, Kd.C_below h.C hB2, h.q.cap, h.q.len⟩, Kd.R_set hr (h.blk1 hg) (by decide) 2 v1, h.ge, hB2, h.C⟩
end

theorem begin_calls (w0 W : World) (g : Nat) (A0 : Option Addr) (c0 : Nat) (b : List Int) (at_ : Int) (V : Value) (l : List S32) (op row base : Int) (dash : Bool) (hs : SR w0 W g A0 c0 b at_ V l op row base dash)  :
    Calls Try.prog 18 #[.pointer (some ⟨g, 0, none⟩)] W fun e w' => e = .returned (.tuple #[]) ∧ SR w0 w' g A0 c0 b at_ V l op at_ (-1) true := by
  have H := Aside0.mk hs
  have hc0 := hs.q.cell0
  have hc1 := hs.q.cell1
  have hc2 := hs.q.cell2
  have hc3 := hs.q.cell3
  have hc4 := hs.q.cell4
  have hc5 := hs.q.cell5
  have hc6 := hs.q.cell6
  have hf1 := blk_frozen hs.q.blk 1
  have hf3 := blk_frozen hs.q.blk 3
  have hf4 := blk_frozen hs.q.blk 4
  have hf5 := blk_frozen hs.q.blk 5
  have hf6 := blk_frozen hs.q.blk 6
  have hl := hs.q.len
  clear hs
  go_enter Try.func18, Try.ntmps18
  go_wp2
  go_end0
  exact ⟨rfl, by repeat (first | exact H.out | exact H.out.drewN _ | exact (H.out.drewN _).drewN _ | (with_reducible first | apply SR.set1 | apply SR.set3 | apply SR.set4 | apply SR.set5 | apply SR.set6))⟩

theorem brackets_calls (w0 W : World) (g : Nat) (A0 : Option Addr) (c0 : Nat) (b : List Int) (at_ : Int) (V : Value) (l : List S32) (op row base : Int) (dash : Bool) (hs : SR w0 W g A0 c0 b at_ V l op row base dash) (h0 : 0 ≤ at_) (h1 : at_ < (b.length : Int)) (o0 : 0 ≤ op) (o1 : op ≤ 16384) :
    Calls Try.prog 38 #[.pointer (some ⟨g, 0, none⟩)] W fun e w' => e = .returned (.int .i64 (bra b op at_).1) ∧ SR w0 w' g A0 c0 b at_ V l (bra b op at_).2 row base dash := by
  have H := Aside0.mk hs
  have hc0 := hs.q.cell0
  have hc1 := hs.q.cell1
  have hc2 := hs.q.cell2
  have hc3 := hs.q.cell3
  have hc4 := hs.q.cell4
  have hc5 := hs.q.cell5
  have hc6 := hs.q.cell6
  have hf1 := blk_frozen hs.q.blk 1
  have hf3 := blk_frozen hs.q.blk 3
  have hf4 := blk_frozen hs.q.blk 4
  have hf5 := blk_frozen hs.q.blk 5
  have hf6 := blk_frozen hs.q.blk 6
  have hl := hs.q.len
  clear hs
  obtain ⟨ad, ea, hx⟩ := Kd.at_int H.out.q.C at_ h0 h1
  cases ea
  have q1 : (0 ≤ at_) = True := eq_true h0
  have q2 : (at_ < (b.length : Int)) = True := eq_true h1
  rcases (by omega : rd b at_ = 91 ∨ rd b at_ = 123 ∨ rd b at_ = 93 ∨ rd b at_ = 125 ∨ rd b at_ = 44 ∨ (rd b at_ ≠ 91 ∧ rd b at_ ≠ 123 ∧ rd b at_ ≠ 93 ∧ rd b at_ ≠ 125 ∧ rd b at_ ≠ 44)) with c | c | c | c | c | c
  · have e91 : (rd b at_ == 91) = true := beq_iff_eq.mpr c
    have hR : bra b op at_ = (8, op + 1) := by simp [bra, c]
    rw [hR]
    clear hR c
    go_enter Try.func38, Try.ntmps38
    go_wp2
    go_quiet (fail)
    go_wp2
    go_ret
    exact ⟨rfl, by repeat (first | exact H.out | exact H.out.drewN _ | exact (H.out.drewN _).drewN _ | (with_reducible first | apply SR.set1 | apply SR.set3 | apply SR.set4 | apply SR.set5 | apply SR.set6))⟩
  · have e91 : (rd b at_ == 91) = false := beq_eq_false_iff_ne.mpr (by omega)
    have e123 : (rd b at_ == 123) = true := beq_iff_eq.mpr c
    have hR : bra b op at_ = (9, op + 1) := by simp [bra, c]
    rw [hR]
    clear hR c
    go_enter Try.func38, Try.ntmps38
    go_wp2
    go_quiet (fail)
    go_wp2
    go_ret
    exact ⟨rfl, by repeat (first | exact H.out | exact H.out.drewN _ | exact (H.out.drewN _).drewN _ | (with_reducible first | apply SR.set1 | apply SR.set3 | apply SR.set4 | apply SR.set5 | apply SR.set6))⟩
  · by_cases o : op - 1 < 0
    · have e91 : (rd b at_ == 91) = false := beq_eq_false_iff_ne.mpr (by omega)
      have e123 : (rd b at_ == 123) = false := beq_eq_false_iff_ne.mpr (by omega)
      have e93 : (rd b at_ == 93) = true := beq_iff_eq.mpr c
      have o2 : decide (op - 1 < 0) = true := decide_eq_true o
      have hR : bra b op at_ = (10, 0) := by simp [bra, c, mx, o]
      rw [hR]
      clear hR c
      go_enter Try.func38, Try.ntmps38
      go_wp2
      go_quiet (fail)
      go_wp2
      go_ret
      exact ⟨rfl, by repeat (first | exact H.out | exact H.out.drewN _ | exact (H.out.drewN _).drewN _ | (with_reducible first | apply SR.set1 | apply SR.set3 | apply SR.set4 | apply SR.set5 | apply SR.set6))⟩
    · have e91 : (rd b at_ == 91) = false := beq_eq_false_iff_ne.mpr (by omega)
      have e123 : (rd b at_ == 123) = false := beq_eq_false_iff_ne.mpr (by omega)
      have e93 : (rd b at_ == 93) = true := beq_iff_eq.mpr c
      have o2 : decide (op - 1 < 0) = false := decide_eq_false o
      have hR : bra b op at_ = (10, op - 1) := by simp [bra, c, mx, o]
      rw [hR]
      clear hR c
      go_enter Try.func38, Try.ntmps38
      go_wp2
      go_quiet (fail)
      go_wp2
      go_ret
      exact ⟨rfl, by repeat (first | exact H.out | exact H.out.drewN _ | exact (H.out.drewN _).drewN _ | (with_reducible first | apply SR.set1 | apply SR.set3 | apply SR.set4 | apply SR.set5 | apply SR.set6))⟩
  · by_cases o : op - 1 < 0
    · have e91 : (rd b at_ == 91) = false := beq_eq_false_iff_ne.mpr (by omega)
      have e123 : (rd b at_ == 123) = false := beq_eq_false_iff_ne.mpr (by omega)
      have e93 : (rd b at_ == 93) = false := beq_eq_false_iff_ne.mpr (by omega)
      have e125 : (rd b at_ == 125) = true := beq_iff_eq.mpr c
      have o2 : decide (op - 1 < 0) = true := decide_eq_true o
      have hR : bra b op at_ = (11, 0) := by simp [bra, c, mx, o]
      rw [hR]
      clear hR c
      go_enter Try.func38, Try.ntmps38
      go_wp2
      go_quiet (fail)
      go_wp2
      go_ret
      exact ⟨rfl, by repeat (first | exact H.out | exact H.out.drewN _ | exact (H.out.drewN _).drewN _ | (with_reducible first | apply SR.set1 | apply SR.set3 | apply SR.set4 | apply SR.set5 | apply SR.set6))⟩
    · have e91 : (rd b at_ == 91) = false := beq_eq_false_iff_ne.mpr (by omega)
      have e123 : (rd b at_ == 123) = false := beq_eq_false_iff_ne.mpr (by omega)
      have e93 : (rd b at_ == 93) = false := beq_eq_false_iff_ne.mpr (by omega)
      have e125 : (rd b at_ == 125) = true := beq_iff_eq.mpr c
      have o2 : decide (op - 1 < 0) = false := decide_eq_false o
      have hR : bra b op at_ = (11, op - 1) := by simp [bra, c, mx, o]
      rw [hR]
      clear hR c
      go_enter Try.func38, Try.ntmps38
      go_wp2
      go_quiet (fail)
      go_wp2
      go_ret
      exact ⟨rfl, by repeat (first | exact H.out | exact H.out.drewN _ | exact (H.out.drewN _).drewN _ | (with_reducible first | apply SR.set1 | apply SR.set3 | apply SR.set4 | apply SR.set5 | apply SR.set6))⟩
  · by_cases o : op > 0
    · have e91 : (rd b at_ == 91) = false := beq_eq_false_iff_ne.mpr (by omega)
      have e123 : (rd b at_ == 123) = false := beq_eq_false_iff_ne.mpr (by omega)
      have e93 : (rd b at_ == 93) = false := beq_eq_false_iff_ne.mpr (by omega)
      have e125 : (rd b at_ == 125) = false := beq_eq_false_iff_ne.mpr (by omega)
      have e44 : (rd b at_ == 44) = true := beq_iff_eq.mpr c
      have o2 : decide (op > 0) = true := decide_eq_true o
      have hR : bra b op at_ = (7, op) := by simp [bra, c, o]
      rw [hR]
      clear hR c
      go_enter Try.func38, Try.ntmps38
      go_wp2
      go_quiet (fail)
      go_wp2
      go_ret
      exact ⟨rfl, by repeat (first | exact H.out | exact H.out.drewN _ | exact (H.out.drewN _).drewN _ | (with_reducible first | apply SR.set1 | apply SR.set3 | apply SR.set4 | apply SR.set5 | apply SR.set6))⟩
    · have e91 : (rd b at_ == 91) = false := beq_eq_false_iff_ne.mpr (by omega)
      have e123 : (rd b at_ == 123) = false := beq_eq_false_iff_ne.mpr (by omega)
      have e93 : (rd b at_ == 93) = false := beq_eq_false_iff_ne.mpr (by omega)
      have e125 : (rd b at_ == 125) = false := beq_eq_false_iff_ne.mpr (by omega)
      have e44 : (rd b at_ == 44) = true := beq_iff_eq.mpr c
      have o2 : decide (op > 0) = false := decide_eq_false o
      have hR : bra b op at_ = (0, op) := by simp [bra, c, o]
      rw [hR]
      clear hR c
      go_enter Try.func38, Try.ntmps38
      go_wp2
      go_quiet (fail)
      go_wp2
      go_ret
      exact ⟨rfl, by repeat (first | exact H.out | exact H.out.drewN _ | exact (H.out.drewN _).drewN _ | (with_reducible first | apply SR.set1 | apply SR.set3 | apply SR.set4 | apply SR.set5 | apply SR.set6))⟩
  · have e91 : (rd b at_ == 91) = false := beq_eq_false_iff_ne.mpr (by omega)
    have e123 : (rd b at_ == 123) = false := beq_eq_false_iff_ne.mpr (by omega)
    have e93 : (rd b at_ == 93) = false := beq_eq_false_iff_ne.mpr (by omega)
    have e125 : (rd b at_ == 125) = false := beq_eq_false_iff_ne.mpr (by omega)
    have e44 : (rd b at_ == 44) = false := beq_eq_false_iff_ne.mpr (by omega)
    have hR : bra b op at_ = (0, op) := by simp [bra, c]
    rw [hR]
    clear hR c
    go_enter Try.func38, Try.ntmps38
    go_wp2
    go_quiet (fail)
    go_wp2
    go_ret
    exact ⟨rfl, by repeat (first | exact H.out | exact H.out.drewN _ | exact (H.out.drewN _).drewN _ | (with_reducible first | apply SR.set1 | apply SR.set3 | apply SR.set4 | apply SR.set5 | apply SR.set6))⟩

end Go.Proofs.Ythoogadfhopkfaa.Sc
