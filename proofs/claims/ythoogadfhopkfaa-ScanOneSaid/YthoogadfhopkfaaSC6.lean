/- The scanner's functions that write its fields, and lay its tokens. -/
import Derived.Test.YthoogadfhopkfaaSC5
namespace Go.Proofs.Ythoogadfhopkfaa.Sc
open Go.RowKit Go.Proofs.Ythoogadfhopkfaa.Q Go.Proofs.YthoogadfhopkfaaW.PrintWords Go.Proofs.YthoogadfhopkfaaW.PrintLast Go.Proofs.YthoogadfhopkfaaW.PrintMore
attribute [local go_sem] max2_int min2_int max_two min_two max_three min_three max_four min_four
set_option linter.unusedVariables false
set_option linter.unusedSimpArgs false
set_option maxHeartbeats 8000000
set_option maxRecDepth 100000

/-- A scanner at block g of W, made behind w0, and its tokens. -/
structure SR (w0 W : World) (g : Nat) (A0 : Option Addr) (c0 : Nat) (b : List Int) (at_ : Int) (V : Value) (l : List S32) (op row base : Int) (dash : Bool) : Prop where
  q : SQ W g A0 c0 b at_ V op row base dash
  r : Kd.R k32 32 W w0.heap.size (fun _ => True) V l
  ge : w0.heap.size ≤ g
  B : Below w0.heap.size w0 W
  C : Kd.C (Kd.int .u8) w0 A0 b.length b
section
variable {w0 W : World} {g : Nat} {A0 : Option Addr} {c0 : Nat} {b : List Int} {at_ : Int} {V : Value} {l : List S32} {op row base : Int} {dash : Bool}
theorem SR.drewN (h : SR w0 W g A0 c0 b at_ V l op row base dash) (n : Nat) : SR w0 (W.drewN n) g A0 c0 b at_ V l op row base dash := ⟨h.q.drewN n, Kd.R_drewN h.r n, h.ge, pw_below_drewN h.B n, h.C⟩
theorem SR.below {W1 : World} (h : SR w0 W g A0 c0 b at_ V l op row base dash) (hb : Below W.heap.size W W1) : SR w0 W1 g A0 c0 b at_ V l op row base dash :=
  ⟨⟨blk_below h.q.blk hb, Kd.C_below h.q.C hb, h.q.cap, h.q.len⟩, Kd.R_below h.r hb, h.ge, below_step h.B hb, h.C⟩
theorem SR.step (h : SR w0 W g A0 c0 b at_ V l op row base dash) (j : Nat) (u : Value) {at2 : Int} {op2 row2 base2 : Int} {dash2 : Bool}
    (e : (#[.slice A0 b.length c0, .int .i64 at_, V, .int .i64 op, .int .i64 row, .int .i64 base, .bool dash] : Array Value).setIfInBounds j u = #[.slice A0 b.length c0, .int .i64 at2, V, .int .i64 op2, .int .i64 row2, .int .i64 base2, .bool dash2]) :
    SR w0 (W.setCell ⟨g, j, none⟩ u) g A0 c0 b at2 V l op2 row2 base2 dash2 :=
  have hB := below_set (j := j) (v := u) h.B h.ge
  ⟨⟨by rw [← e]; exact blk_set h.q.blk j u, Kd.C_below h.C hB, h.q.cap, h.q.len⟩, Kd.R_set h.r h.q.blk (by decide) j u, h.ge, hB, h.C⟩
theorem SR.set1 (h : SR w0 W g A0 c0 b at_ V l op row base dash) (x : Int) : SR w0 (W.setCell ⟨g, 1, none⟩ (.int .i64 x)) g A0 c0 b x V l op row base dash := h.step 1 _ rfl
theorem SR.set3 (h : SR w0 W g A0 c0 b at_ V l op row base dash) (x : Int) : SR w0 (W.setCell ⟨g, 3, none⟩ (.int .i64 x)) g A0 c0 b at_ V l x row base dash := h.step 3 _ rfl
theorem SR.set4 (h : SR w0 W g A0 c0 b at_ V l op row base dash) (x : Int) : SR w0 (W.setCell ⟨g, 4, none⟩ (.int .i64 x)) g A0 c0 b at_ V l op x base dash := h.step 4 _ rfl
theorem SR.set5 (h : SR w0 W g A0 c0 b at_ V l op row base dash) (x : Int) : SR w0 (W.setCell ⟨g, 5, none⟩ (.int .i64 x)) g A0 c0 b at_ V l op row x dash := h.step 5 _ rfl
theorem SR.set6 (h : SR w0 W g A0 c0 b at_ V l op row base dash) (x : Bool) : SR w0 (W.setCell ⟨g, 6, none⟩ (.bool x)) g A0 c0 b at_ V l op row base x := h.step 6 _ rfl
theorem SR.ne (h : SR w0 W g A0 c0 b at_ V l op row base dash) : some g ≠ V.ownBlock := Kd.R_ne h.r h.q.blk (by decide)
theorem SR.blk1 (h : SR w0 W g A0 c0 b at_ V l op row base dash) {w1 : World} (hg : W.grownBy w1 V.ownBlock) : w1.heap[g]? = some (.cells #[.slice A0 b.length c0, .int .i64 at_, V, .int .i64 op, .int .i64 row, .int .i64 base, .bool dash] 43 (0, 0)) := blk_grown h.q.blk hg h.ne
theorem SR.laid (h : SR w0 W g A0 c0 b at_ V l op row base dash) {w1 : World} {v1 : Value} {l1 : List S32} (hr : Kd.R k32 32 w1 w0.heap.size (fun _ => True) v1 l1) (hB : Below w0.heap.size w0 w1) (hg : W.grownBy w1 V.ownBlock) :
    SR w0 (w1.setCell ⟨g, 2, none⟩ v1) g A0 c0 b at_ v1 l1 op row base dash :=
  have hB2 := below_set (j := 2) (v := v1) hB h.ge
  ⟨⟨blk_set (h.blk1 hg) 2 v1, Kd.C_below h.C hB2, h.q.cap, h.q.len⟩, Kd.R_set hr (h.blk1 hg) (by decide) 2 v1, h.ge, hB2, h.C⟩
end

theorem begin_calls (w0 W : World) (g : Nat) (A0 : Option Addr) (c0 : Nat) (b : List Int) (at_ : Int) (V : Value) (l : List S32) (op row base : Int) (dash : Bool) (hs : SR w0 W g A0 c0 b at_ V l op row base dash)  :
    Calls Try.prog 18 #[.pointer (some ⟨g, 0, none⟩)] W fun e w' => e = .returned (.tuple #[]) ∧ SR w0 w' g A0 c0 b at_ V l op at_ (-1) true := by
  have H := Aside0.mk hs
  have hc0 := hs.q.cell0
  have hc1 := hs.q.cell1
  have hc2 := hs.q.cell2
  have hc3 := hs.q.cell3
  have hc4 := hs.q.cell4
  have hc5 := hs.q.cell5
  have hc6 := hs.q.cell6
  have hf1 := blk_frozen hs.q.blk 1
  have hf3 := blk_frozen hs.q.blk 3
  have hf4 := blk_frozen hs.q.blk 4
  have hf5 := blk_frozen hs.q.blk 5
  have hf6 := blk_frozen hs.q.blk 6
  have hl := hs.q.len
  clear hs
  go_enter Try.func18, Try.ntmps18
  go_wp2
  go_end0
  exact ⟨rfl, by repeat (first | exact H.out | exact H.out.drewN _ | (with_reducible first | apply SR.set1 | apply SR.set3 | apply SR.set4 | apply SR.set5 | apply SR.set6))⟩

theorem brackets_calls (w0 W : World) (g : Nat) (A0 : Option Addr) (c0 : Nat) (b : List Int) (at_ : Int) (V : Value) (l : List S32) (op row base : Int) (dash : Bool) (hs : SR w0 W g A0 c0 b at_ V l op row base dash) (h0 : 0 ≤ at_) (h1 : at_ < (b.length : Int)) (o0 : 0 ≤ op) (o1 : op ≤ 16384) :
    Calls Try.prog 38 #[.pointer (some ⟨g, 0, none⟩)] W fun e w' => e = .returned (.int .i64 (bra b op at_).1) ∧ SR w0 w' g A0 c0 b at_ V l (bra b op at_).2 row base dash := by
  have H := Aside0.mk hs
  have hc0 := hs.q.cell0
  have hc1 := hs.q.cell1
  have hc2 := hs.q.cell2
  have hc3 := hs.q.cell3
  have hc4 := hs.q.cell4
  have hc5 := hs.q.cell5
  have hc6 := hs.q.cell6
  have hf1 := blk_frozen hs.q.blk 1
  have hf3 := blk_frozen hs.q.blk 3
  have hf4 := blk_frozen hs.q.blk 4
  have hf5 := blk_frozen hs.q.blk 5
  have hf6 := blk_frozen hs.q.blk 6
  have hl := hs.q.len
  clear hs
  obtain ⟨ad, ea, hx⟩ := Kd.at_int H.out.q.C at_ h0 h1
  cases ea
  have q1 : (0 ≤ at_) = True := eq_true h0
  have q2 : (at_ < (b.length : Int)) = True := eq_true h1
  rcases (by omega : rd b at_ = 91 ∨ rd b at_ = 123 ∨ rd b at_ = 93 ∨ rd b at_ = 125 ∨ rd b at_ = 44 ∨ (rd b at_ ≠ 91 ∧ rd b at_ ≠ 123 ∧ rd b at_ ≠ 93 ∧ rd b at_ ≠ 125 ∧ rd b at_ ≠ 44)) with c | c | c | c | c | c
  · have e91 : (rd b at_ == 91) = true := beq_iff_eq.mpr c
    have hR : bra b op at_ = (8, op + 1) := by simp [bra, c]
    rw [hR]
    clear hR c
    go_enter Try.func38, Try.ntmps38
    go_wp2
    go_quiet (fail)
    go_wp2
    go_ret
    exact ⟨rfl, by repeat (first | exact H.out | exact H.out.drewN _ | (with_reducible first | apply SR.set1 | apply SR.set3 | apply SR.set4 | apply SR.set5 | apply SR.set6))⟩
  · have e91 : (rd b at_ == 91) = false := beq_eq_false_iff_ne.mpr (by omega)
    have e123 : (rd b at_ == 123) = true := beq_iff_eq.mpr c
    have hR : bra b op at_ = (9, op + 1) := by simp [bra, c]
    rw [hR]
    clear hR c
    go_enter Try.func38, Try.ntmps38
    go_wp2
    go_quiet (fail)
    go_wp2
    go_ret
    exact ⟨rfl, by repeat (first | exact H.out | exact H.out.drewN _ | (with_reducible first | apply SR.set1 | apply SR.set3 | apply SR.set4 | apply SR.set5 | apply SR.set6))⟩
  · by_cases o : op - 1 < 0
    · have e91 : (rd b at_ == 91) = false := beq_eq_false_iff_ne.mpr (by omega)
      have e123 : (rd b at_ == 123) = false := beq_eq_false_iff_ne.mpr (by omega)
      have e93 : (rd b at_ == 93) = true := beq_iff_eq.mpr c
      have o2 : decide (op - 1 < 0) = true := decide_eq_true o
      have hR : bra b op at_ = (10, 0) := by simp [bra, c, mx, o]
      rw [hR]
      clear hR c
      go_enter Try.func38, Try.ntmps38
      go_wp2
      go_quiet (fail)
      go_wp2
      go_ret
      exact ⟨rfl, by repeat (first | exact H.out | exact H.out.drewN _ | (with_reducible first | apply SR.set1 | apply SR.set3 | apply SR.set4 | apply SR.set5 | apply SR.set6))⟩
    · have e91 : (rd b at_ == 91) = false := beq_eq_false_iff_ne.mpr (by omega)
      have e123 : (rd b at_ == 123) = false := beq_eq_false_iff_ne.mpr (by omega)
      have e93 : (rd b at_ == 93) = true := beq_iff_eq.mpr c
      have o2 : decide (op - 1 < 0) = false := decide_eq_false o
      have hR : bra b op at_ = (10, op - 1) := by simp [bra, c, mx, o]
      rw [hR]
      clear hR c
      go_enter Try.func38, Try.ntmps38
      go_wp2
      go_quiet (fail)
      go_wp2
      go_ret
      exact ⟨rfl, by repeat (first | exact H.out | exact H.out.drewN _ | (with_reducible first | apply SR.set1 | apply SR.set3 | apply SR.set4 | apply SR.set5 | apply SR.set6))⟩
  · by_cases o : op - 1 < 0
    · have e91 : (rd b at_ == 91) = false := beq_eq_false_iff_ne.mpr (by omega)
      have e123 : (rd b at_ == 123) = false := beq_eq_false_iff_ne.mpr (by omega)
      have e93 : (rd b at_ == 93) = false := beq_eq_false_iff_ne.mpr (by omega)
      have e125 : (rd b at_ == 125) = true := beq_iff_eq.mpr c
      have o2 : decide (op - 1 < 0) = true := decide_eq_true o
      have hR : bra b op at_ = (11, 0) := by simp [bra, c, mx, o]
      rw [hR]
      clear hR c
      go_enter Try.func38, Try.ntmps38
      go_wp2
      go_quiet (fail)
      go_wp2
      go_ret
      exact ⟨rfl, by repeat (first | exact H.out | exact H.out.drewN _ | (with_reducible first | apply SR.set1 | apply SR.set3 | apply SR.set4 | apply SR.set5 | apply SR.set6))⟩
    · have e91 : (rd b at_ == 91) = false := beq_eq_false_iff_ne.mpr (by omega)
      have e123 : (rd b at_ == 123) = false := beq_eq_false_iff_ne.mpr (by omega)
      have e93 : (rd b at_ == 93) = false := beq_eq_false_iff_ne.mpr (by omega)
      have e125 : (rd b at_ == 125) = true := beq_iff_eq.mpr c
      have o2 : decide (op - 1 < 0) = false := decide_eq_false o
      have hR : bra b op at_ = (11, op - 1) := by simp [bra, c, mx, o]
      rw [hR]
      clear hR c
      go_enter Try.func38, Try.ntmps38
      go_wp2
      go_quiet (fail)
      go_wp2
      go_ret
      exact ⟨rfl, by repeat (first | exact H.out | exact H.out.drewN _ | (with_reducible first | apply SR.set1 | apply SR.set3 | apply SR.set4 | apply SR.set5 | apply SR.set6))⟩
  · by_cases o : op > 0
    · have e91 : (rd b at_ == 91) = false := beq_eq_false_iff_ne.mpr (by omega)
      have e123 : (rd b at_ == 123) = false := beq_eq_false_iff_ne.mpr (by omega)
      have e93 : (rd b at_ == 93) = false := beq_eq_false_iff_ne.mpr (by omega)
      have e125 : (rd b at_ == 125) = false := beq_eq_false_iff_ne.mpr (by omega)
      have e44 : (rd b at_ == 44) = true := beq_iff_eq.mpr c
      have o2 : decide (op > 0) = true := decide_eq_true o
      have hR : bra b op at_ = (7, op) := by simp [bra, c, o]
      rw [hR]
      clear hR c
      go_enter Try.func38, Try.ntmps38
      go_wp2
      go_quiet (fail)
      go_wp2
      go_ret
      exact ⟨rfl, by repeat (first | exact H.out | exact H.out.drewN _ | (with_reducible first | apply SR.set1 | apply SR.set3 | apply SR.set4 | apply SR.set5 | apply SR.set6))⟩
    · have e91 : (rd b at_ == 91) = false := beq_eq_false_iff_ne.mpr (by omega)
      have e123 : (rd b at_ == 123) = false := beq_eq_false_iff_ne.mpr (by omega)
      have e93 : (rd b at_ == 93) = false := beq_eq_false_iff_ne.mpr (by omega)
      have e125 : (rd b at_ == 125) = false := beq_eq_false_iff_ne.mpr (by omega)
      have e44 : (rd b at_ == 44) = true := beq_iff_eq.mpr c
      have o2 : decide (op > 0) = false := decide_eq_false o
      have hR : bra b op at_ = (0, op) := by simp [bra, c, o]
      rw [hR]
      clear hR c
      go_enter Try.func38, Try.ntmps38
      go_wp2
      go_quiet (fail)
      go_wp2
      go_ret
      exact ⟨rfl, by repeat (first | exact H.out | exact H.out.drewN _ | (with_reducible first | apply SR.set1 | apply SR.set3 | apply SR.set4 | apply SR.set5 | apply SR.set6))⟩
  · have e91 : (rd b at_ == 91) = false := beq_eq_false_iff_ne.mpr (by omega)
    have e123 : (rd b at_ == 123) = false := beq_eq_false_iff_ne.mpr (by omega)
    have e93 : (rd b at_ == 93) = false := beq_eq_false_iff_ne.mpr (by omega)
    have e125 : (rd b at_ == 125) = false := beq_eq_false_iff_ne.mpr (by omega)
    have e44 : (rd b at_ == 44) = false := beq_eq_false_iff_ne.mpr (by omega)
    have hR : bra b op at_ = (0, op) := by simp [bra, c]
    rw [hR]
    clear hR c
    go_enter Try.func38, Try.ntmps38
    go_wp2
    go_quiet (fail)
    go_wp2
    go_ret
    exact ⟨rfl, by repeat (first | exact H.out | exact H.out.drewN _ | (with_reducible first | apply SR.set1 | apply SR.set3 | apply SR.set4 | apply SR.set5 | apply SR.set6))⟩

end Go.Proofs.Ythoogadfhopkfaa.Sc
