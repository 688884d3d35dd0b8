/- The reference's scanner: what writes its fields, and lays a token. -/
import Derived.Test.YtagjfcogbnhmgaaRF4
import Derived.Deep.RegionLaw
import Derived.StillTailTactics
namespace Go.Proofs.Ytagjfcogbnhmgaa.Rf
open Go.RowKit Go.Proofs.Ytagjfcogbnhmgaa.Q Go.Proofs.YtagjfcogbnhmgaaW.PrintWords Go.Proofs.YtagjfcogbnhmgaaW.PrintLast Go.Proofs.YtagjfcogbnhmgaaW.PrintMore Go.Proofs.Ytagjfcogbnhmgaa.Sc Go.Proofs.Ytagjfcogbnhmgaa.Pure
attribute [local go_sem] max2_int min2_int max_two min_two max_three min_three max_four min_four
set_option linter.unusedVariables false
set_option linter.unusedSimpArgs false
set_option maxHeartbeats 1000000
set_option maxRecDepth 100000

/-- A scanner at block g of W, made behind w0, and its tokens. -/
structure RR (w0 W : World) (g : Nat) (A0 : Option Addr) (c0 : Nat) (b : List Int) (at_ row op base : Int) (only : Bool) (text : Int) (V : Value) (l : List S48) : Prop where
  q : RQ W g A0 c0 b at_ row op base only text V
  r : Kd.R k48 48 W w0.heap.size (fun _ => True) V l
  ge : w0.heap.size ≤ g
  B : Below w0.heap.size w0 W
  C : Kd.C (Kd.int .u8) w0 A0 b.length b
section
variable {w0 W : World} {g : Nat} {A0 : Option Addr} {c0 : Nat} {b : List Int} {at_ row op base : Int} {only : Bool} {text : Int} {V : Value} {l : List S48}
theorem RR.drewN (h : RR w0 W g A0 c0 b at_ row op base only text V l) (n : Nat) : RR w0 (W.drewN n) g A0 c0 b at_ row op base only text V l := ⟨h.q.drewN n, Kd.R_drewN h.r n, h.ge, pw_below_drewN h.B n, h.C⟩
theorem RR.below {W1 : World} (h : RR w0 W g A0 c0 b at_ row op base only text V l) (hb : Below W.heap.size W W1) : RR w0 W1 g A0 c0 b at_ row op base only text V l :=
  ⟨⟨blk_below h.q.blk hb, Kd.C_below h.q.C hb, h.q.cap, h.q.len⟩, Kd.R_below h.r hb, h.ge, below_step h.B hb, h.C⟩
theorem RR.drew (h : RR w0 W g A0 c0 b at_ row op base only text V l) : RR w0 W.drew g A0 c0 b at_ row op base only text V l := h.below (below_drew (Below.refl _ _))
theorem RR.step (h : RR w0 W g A0 c0 b at_ row op base only text V l) (j : Nat) (u : Value) {at2 row2 op2 base2 : Int} {only2 : Bool} {text2 : Int}
    (e : (#[.slice A0 b.length c0, .int .i64 at_, .int .i64 row, .int .i64 op, .int .i64 base, .bool only, .int .i64 text, V] : Array Value).setIfInBounds j u = #[.slice A0 b.length c0, .int .i64 at2, .int .i64 row2, .int .i64 op2, .int .i64 base2, .bool only2, .int .i64 text2, V]) :
    RR w0 (W.setCell ⟨g, j, none⟩ u) g A0 c0 b at2 row2 op2 base2 only2 text2 V l :=
  have hB := below_set (j := j) (v := u) h.B h.ge
  ⟨⟨by rw [← e]; exact blk_set h.q.blk j u, Kd.C_below h.C hB, h.q.cap, h.q.len⟩, Kd.R_set h.r h.q.blk (by decide) j u, h.ge, hB, h.C⟩
theorem RR.set1 (h : RR w0 W g A0 c0 b at_ row op base only text V l) (x : Int) : RR w0 (W.setCell ⟨g, 1, none⟩ (.int .i64 x)) g A0 c0 b x row op base only text V l := h.step 1 _ rfl
theorem RR.set2 (h : RR w0 W g A0 c0 b at_ row op base only text V l) (x : Int) : RR w0 (W.setCell ⟨g, 2, none⟩ (.int .i64 x)) g A0 c0 b at_ x op base only text V l := h.step 2 _ rfl
theorem RR.set3 (h : RR w0 W g A0 c0 b at_ row op base only text V l) (x : Int) : RR w0 (W.setCell ⟨g, 3, none⟩ (.int .i64 x)) g A0 c0 b at_ row x base only text V l := h.step 3 _ rfl
theorem RR.set4 (h : RR w0 W g A0 c0 b at_ row op base only text V l) (x : Int) : RR w0 (W.setCell ⟨g, 4, none⟩ (.int .i64 x)) g A0 c0 b at_ row op x only text V l := h.step 4 _ rfl
theorem RR.set6 (h : RR w0 W g A0 c0 b at_ row op base only text V l) (x : Int) : RR w0 (W.setCell ⟨g, 6, none⟩ (.int .i64 x)) g A0 c0 b at_ row op base only x V l := h.step 6 _ rfl
theorem RR.set5 (h : RR w0 W g A0 c0 b at_ row op base only text V l) (x : Bool) : RR w0 (W.setCell ⟨g, 5, none⟩ (.bool x)) g A0 c0 b at_ row op base x text V l := h.step 5 _ rfl
theorem RR.ne (h : RR w0 W g A0 c0 b at_ row op base only text V l) : some g ≠ V.ownBlock := Kd.R_ne h.r h.q.blk (by decide)
theorem RR.blk1 (h : RR w0 W g A0 c0 b at_ row op base only text V l) {w1 : World} (hg : W.grownBy w1 V.ownBlock) : w1.heap[g]? = some (.cells #[.slice A0 b.length c0, .int .i64 at_, .int .i64 row, .int .i64 op, .int .i64 base, .bool only, .int .i64 text, V] 37 (0, 0)) := blk_grown h.q.blk hg h.ne
theorem RR.laid (h : RR w0 W g A0 c0 b at_ row op base only text V l) {w1 : World} {v1 : Value} {l1 : List S48} (hr : Kd.R k48 48 w1 w0.heap.size (fun _ => True) v1 l1) (hB : Below w0.heap.size w0 w1) (hg : W.grownBy w1 V.ownBlock) :
    RR w0 (w1.setCell ⟨g, 7, none⟩ v1) g A0 c0 b at_ row op base only text v1 l1 :=
  have hB2 := below_set (j := 7) (v := v1) hB h.ge
  ⟨⟨blk_set (h.blk1 hg) 7 v1, Kd.C_below h.C hB2, h.q.cap, h.q.len⟩, Kd.R_set hr (h.blk1 hg) (by decide) 7 v1, h.ge, hB2, h.C⟩
end
def RS (w0 W : World) (g : Nat) (A0 : Option Addr) (c0 : Nat) (b : List Int) (s : RSt) : Prop := ∃ V, RR w0 W g A0 c0 b s.at_ s.row s.op s.base s.only s.text V s.l

theorem scnext_calls (w0 W : World) (g : Nat) (A0 : Option Addr) (c0 : Nat) (b : List Int) (at_ row op base : Int) (only : Bool) (text : Int) (V : Value) (l : List S48) (hs : RR w0 W g A0 c0 b at_ row op base only text V l)  :
    Calls Try.prog 8 #[.pointer (some ⟨g, 0, none⟩)] W fun e w' => e = .returned (.tuple #[]) ∧ RR w0 w' g A0 c0 b at_ at_ op (-1) true text V l := by
  have H := Aside0.mk hs
  have hc0 := hs.q.cell0
  have hc1 := hs.q.cell1
  have hc2 := hs.q.cell2
  have hc3 := hs.q.cell3
  have hc4 := hs.q.cell4
  have hc5 := hs.q.cell5
  have hc6 := hs.q.cell6
  have hc7 := hs.q.cell7
  have hf1 := blk_frozen hs.q.blk 1
  have hf2 := blk_frozen hs.q.blk 2
  have hf3 := blk_frozen hs.q.blk 3
  have hf4 := blk_frozen hs.q.blk 4
  have hf5 := blk_frozen hs.q.blk 5
  have hf6 := blk_frozen hs.q.blk 6
  have hf7 := blk_frozen hs.q.blk 7
  have hl := hs.q.len
  clear hs
  go_enter Try.func8, Try.ntmps8
  go_wp2
  go_end0
  exact ⟨rfl, by repeat (first | exact H.out | exact H.out.drewN _ | exact (H.out.drewN _).drewN _ | (with_reducible first | apply RR.drew | apply RR.set1 | apply RR.set2 | apply RR.set3 | apply RR.set4 | apply RR.set5 | apply RR.set6))⟩

theorem counts_calls (k : Int) (W : World) : Calls Try.prog 19 #[.int .i64 k] W fun e w' => e = .returned (.bool (counts k)) ∧ ∃ n, w' = W.drewN n := by
  rcases (by omega : k = 1 ∨ k = 2 ∨ k = 3 ∨ k = 4 ∨ (k ≠ 1 ∧ k ≠ 2 ∧ k ≠ 3 ∧ k ≠ 4)) with c | c | c | c | c
  · have k1 : (k != 1) = false := bne_eq_false_iff_eq.mpr c
    have hR : counts k = false := by simp [counts, *]
    rw [hR]
    clear hR c
    go_enter Try.func19, Try.ntmps19
    go_wp2
    go_ret
    exact ⟨rfl, by repeat (first | exact dr0 _ | refine dr1 ?_ _)⟩
  · have k1 : (k != 1) = true := bne_iff_ne.mpr (by omega)
    have k2 : (k != 2) = false := bne_eq_false_iff_eq.mpr c
    have hR : counts k = false := by simp [counts, *]
    rw [hR]
    clear hR c
    go_enter Try.func19, Try.ntmps19
    go_wp2
    go_ret
    exact ⟨rfl, by repeat (first | exact dr0 _ | refine dr1 ?_ _)⟩
  · have k1 : (k != 1) = true := bne_iff_ne.mpr (by omega)
    have k2 : (k != 2) = true := bne_iff_ne.mpr (by omega)
    have k3 : (k != 3) = false := bne_eq_false_iff_eq.mpr c
    have hR : counts k = false := by simp [counts, *]
    rw [hR]
    clear hR c
    go_enter Try.func19, Try.ntmps19
    go_wp2
    go_ret
    exact ⟨rfl, by repeat (first | exact dr0 _ | refine dr1 ?_ _)⟩
  · have k1 : (k != 1) = true := bne_iff_ne.mpr (by omega)
    have k2 : (k != 2) = true := bne_iff_ne.mpr (by omega)
    have k3 : (k != 3) = true := bne_iff_ne.mpr (by omega)
    have k4 : (k != 4) = false := bne_eq_false_iff_eq.mpr c
    have hR : counts k = false := by simp [counts, *]
    rw [hR]
    clear hR c
    go_enter Try.func19, Try.ntmps19
    go_wp2
    go_ret
    exact ⟨rfl, by repeat (first | exact dr0 _ | refine dr1 ?_ _)⟩
  · have k1 : (k != 1) = true := bne_iff_ne.mpr (by omega)
    have k2 : (k != 2) = true := bne_iff_ne.mpr (by omega)
    have k3 : (k != 3) = true := bne_iff_ne.mpr (by omega)
    have k4 : (k != 4) = true := bne_iff_ne.mpr (by omega)
    have hR : counts k = true := by simp [counts, *]
    rw [hR]
    clear hR c
    go_enter Try.func19, Try.ntmps19
    go_wp2
    go_ret
    exact ⟨rfl, by repeat (first | exact dr0 _ | refine dr1 ?_ _)⟩

theorem add_calls (w0 W : World) (g : Nat) (A0 : Option Addr) (c0 : Nat) (b : List Int) (at_ row op base : Int) (only : Bool) (text : Int) (V : Value) (l : List S48) (hs : RR w0 W g A0 c0 b at_ row op base only text V l) (kind e1 : Int) (h0 : 0 ≤ row) (h1 : row ≤ at_) (h2 : at_ ≤ 16384) (hn : (l.length : Int) ≤ 16384) :
    Calls Try.prog 10 #[.pointer (some ⟨g, 0, none⟩), .int .i64 kind, .int .i64 e1] W fun e w' => e = .returned (.tuple #[]) ∧ ∃ V', RR w0 w' g A0 c0 b e1 row op (adBase kind at_ row base) (adOnly kind only) text V' (l ++ [⟨kind, at_, e1⟩]) := by
  have H := Aside0.mk hs
  have hc0 := hs.q.cell0
  have hc1 := hs.q.cell1
  have hc2 := hs.q.cell2
  have hc3 := hs.q.cell3
  have hc4 := hs.q.cell4
  have hc5 := hs.q.cell5
  have hc6 := hs.q.cell6
  have hc7 := hs.q.cell7
  have hf1 := blk_frozen hs.q.blk 1
  have hf2 := blk_frozen hs.q.blk 2
  have hf3 := blk_frozen hs.q.blk 3
  have hf4 := blk_frozen hs.q.blk 4
  have hf5 := blk_frozen hs.q.blk 5
  have hf6 := blk_frozen hs.q.blk 6
  have hf7 := blk_frozen hs.q.blk 7
  have hl := hs.q.len
  clear hs
  go_enter Try.func10, Try.ntmps10
  apply wp_seq_k; intro K1 hK1
  go_cut [] (fun wc => Aside0 (RR w0 wc g A0 c0 b at_ row op (adBase kind at_ row base) only text V l))
  case first =>
    by_cases k1 : counts kind = true
    · by_cases k2 : kind = 19
      · have k3 : (kind != 19) = false := bne_eq_false_iff_eq.mpr k2
        clear k2
        have hR := Aside0.mk (show adBase kind at_ row base = base by simp [adBase, *])
        go_wp2_with (first | (go_at_call 19; (with_reducible refine (counts_calls _ _).mono ?_); rintro e w1 ⟨rfl, n1, rfl⟩))
        go_meet
        case rel => exact ⟨by rw [hR.out]; exact (by repeat (first | exact H.out | exact H.out.drewN _ | exact (H.out.drewN _).drewN _ | (with_reducible first | apply RR.drew | apply RR.set1 | apply RR.set2 | apply RR.set3 | apply RR.set4 | apply RR.set5 | apply RR.set6)))⟩
      · have k3 : (kind != 19) = true := bne_iff_ne.mpr k2
        clear k2
        by_cases k4 : base < 0
        · have k5 : decide (base < 0) = true := decide_eq_true k4
          have hR := Aside0.mk (show adBase kind at_ row base = at_ - row by simp [adBase, *])
          go_wp2_with (first | (go_at_call 19; (with_reducible refine (counts_calls _ _).mono ?_); rintro e w1 ⟨rfl, n1, rfl⟩))
          have H3 := Aside0.mk (H.out.drewN n1)
          generalize W.drewN n1 = w3 at *
          clear hc0 hc1 hc2 hc3 hc4 hc5 hc6 hc7 hf1 hf2 hf3 hf4 hf5 hf6 hf7
          have pc0 := H3.out.q.cell0
          have pc1 := H3.out.q.cell1
          have pc2 := H3.out.q.cell2
          have pc3 := H3.out.q.cell3
          have pc4 := H3.out.q.cell4
          have pc5 := H3.out.q.cell5
          have pc6 := H3.out.q.cell6
          have pc7 := H3.out.q.cell7
          have pf1 := blk_frozen H3.out.q.blk 1
          have pf2 := blk_frozen H3.out.q.blk 2
          have pf3 := blk_frozen H3.out.q.blk 3
          have pf4 := blk_frozen H3.out.q.blk 4
          have pf5 := blk_frozen H3.out.q.blk 5
          have pf6 := blk_frozen H3.out.q.blk 6
          have pf7 := blk_frozen H3.out.q.blk 7
          go_still_tail 10, (by kernel_rfl)
          go_wp2
          go_meet
          case rel => exact ⟨by rw [hR.out]; exact (by repeat (first | exact H3.out | (with_reducible first | apply RR.drew | apply RR.set1 | apply RR.set2 | apply RR.set3 | apply RR.set4 | apply RR.set5 | apply RR.set6)))⟩
        · have k5 : decide (base < 0) = false := decide_eq_false k4
          have hR := Aside0.mk (show adBase kind at_ row base = base by simp [adBase, *])
          go_wp2_with (first | (go_at_call 19; (with_reducible refine (counts_calls _ _).mono ?_); rintro e w1 ⟨rfl, n1, rfl⟩))
          go_meet
          case rel => exact ⟨by rw [hR.out]; exact (by repeat (first | exact H.out | exact H.out.drewN _ | exact (H.out.drewN _).drewN _ | (with_reducible first | apply RR.drew | apply RR.set1 | apply RR.set2 | apply RR.set3 | apply RR.set4 | apply RR.set5 | apply RR.set6)))⟩
    · replace k1 : counts kind = false := by simpa using k1
      have hR := Aside0.mk (show adBase kind at_ row base = base by simp [adBase, *])
      go_wp2_with (first | (go_at_call 19; (with_reducible refine (counts_calls _ _).mono ?_); rintro e w1 ⟨rfl, n1, rfl⟩))
      go_meet
      case rel => exact ⟨by rw [hR.out]; exact (by repeat (first | exact H.out | exact H.out.drewN _ | exact (H.out.drewN _).drewN _ | (with_reducible first | apply RR.drew | apply RR.set1 | apply RR.set2 | apply RR.set3 | apply RR.set4 | apply RR.set5 | apply RR.set6)))⟩
  case rest =>
    have H1 := Aside0.mk hcut.out
    clear hcut H
    clear hc0 hc1 hc2 hc3 hc4 hc5 hc6 hc7 hf1 hf2 hf3 hf4 hf5 hf6 hf7
    have pc0 := H1.out.q.cell0
    have pc1 := H1.out.q.cell1
    have pc2 := H1.out.q.cell2
    have pc3 := H1.out.q.cell3
    have pc4 := H1.out.q.cell4
    have pc5 := H1.out.q.cell5
    have pc6 := H1.out.q.cell6
    have pc7 := H1.out.q.cell7
    have pf1 := blk_frozen H1.out.q.blk 1
    have pf2 := blk_frozen H1.out.q.blk 2
    have pf3 := blk_frozen H1.out.q.blk 3
    have pf4 := blk_frozen H1.out.q.blk 4
    have pf5 := blk_frozen H1.out.q.blk 5
    have pf6 := blk_frozen H1.out.q.blk 6
    have pf7 := blk_frozen H1.out.q.blk 7
    generalize adBase kind at_ row base = base1 at *
    apply hK1
    apply wp_seq_k; intro K2 hK2
    go_cut [] (fun wc => Aside0 (RR w0 wc g A0 c0 b at_ row op base1 (adOnly kind only) text V l))
    case first =>
      rcases (by omega : kind = 2 ∨ kind = 3 ∨ kind = 5 ∨ kind = 20 ∨ (kind ≠ 2 ∧ kind ≠ 3 ∧ kind ≠ 5 ∧ kind ≠ 20)) with c | c | c | c | c
      · have k2 : (kind != 2) = false := bne_eq_false_iff_eq.mpr c
        have hR := Aside0.mk (show adOnly kind only = only by simp [adOnly, *])
        try clear c
        go_wp2
        go_meet
        case rel => exact ⟨by rw [hR.out]; exact (by repeat (first | exact H1.out | exact H1.out.drewN _ | exact (H1.out.drewN _).drewN _ | (with_reducible first | apply RR.drew | apply RR.set1 | apply RR.set2 | apply RR.set3 | apply RR.set4 | apply RR.set5 | apply RR.set6)))⟩
      · have k2 : (kind != 2) = true := bne_iff_ne.mpr (by omega)
        have k3 : (kind != 3) = false := bne_eq_false_iff_eq.mpr c
        have hR := Aside0.mk (show adOnly kind only = only by simp [adOnly, *])
        try clear c
        go_wp2
        go_meet
        case rel => exact ⟨by rw [hR.out]; exact (by repeat (first | exact H1.out | exact H1.out.drewN _ | exact (H1.out.drewN _).drewN _ | (with_reducible first | apply RR.drew | apply RR.set1 | apply RR.set2 | apply RR.set3 | apply RR.set4 | apply RR.set5 | apply RR.set6)))⟩
      · have k2 : (kind != 2) = true := bne_iff_ne.mpr (by omega)
        have k3 : (kind != 3) = true := bne_iff_ne.mpr (by omega)
        have k5 : (kind != 5) = false := bne_eq_false_iff_eq.mpr c
        have hR := Aside0.mk (show adOnly kind only = only by simp [adOnly, *])
        try clear c
        go_wp2
        go_meet
        case rel => exact ⟨by rw [hR.out]; exact (by repeat (first | exact H1.out | exact H1.out.drewN _ | exact (H1.out.drewN _).drewN _ | (with_reducible first | apply RR.drew | apply RR.set1 | apply RR.set2 | apply RR.set3 | apply RR.set4 | apply RR.set5 | apply RR.set6)))⟩
      · have k2 : (kind != 2) = true := bne_iff_ne.mpr (by omega)
        have k3 : (kind != 3) = true := bne_iff_ne.mpr (by omega)
        have k5 : (kind != 5) = true := bne_iff_ne.mpr (by omega)
        have k20 : (kind != 20) = false := bne_eq_false_iff_eq.mpr c
        have hR := Aside0.mk (show adOnly kind only = only by simp [adOnly, *])
        try clear c
        go_wp2
        go_meet
        case rel => exact ⟨by rw [hR.out]; exact (by repeat (first | exact H1.out | exact H1.out.drewN _ | exact (H1.out.drewN _).drewN _ | (with_reducible first | apply RR.drew | apply RR.set1 | apply RR.set2 | apply RR.set3 | apply RR.set4 | apply RR.set5 | apply RR.set6)))⟩
      · have k2 : (kind != 2) = true := bne_iff_ne.mpr (by omega)
        have k3 : (kind != 3) = true := bne_iff_ne.mpr (by omega)
        have k5 : (kind != 5) = true := bne_iff_ne.mpr (by omega)
        have k20 : (kind != 20) = true := bne_iff_ne.mpr (by omega)
        have hR := Aside0.mk (show adOnly kind only = false by simp [adOnly, *])
        try clear c
        go_wp2
        go_meet
        case rel => exact ⟨by rw [hR.out]; exact (by repeat (first | exact H1.out | exact H1.out.drewN _ | exact (H1.out.drewN _).drewN _ | (with_reducible first | apply RR.drew | apply RR.set1 | apply RR.set2 | apply RR.set3 | apply RR.set4 | apply RR.set5 | apply RR.set6)))⟩
    case rest =>
      have H2 := Aside0.mk hcut.out
      clear hcut H1
      clear pc0 pc1 pc2 pc3 pc4 pc5 pc6 pc7 pf1 pf2 pf3 pf4 pf5 pf6 pf7
      have qc0 := H2.out.q.cell0
      have qc1 := H2.out.q.cell1
      have qc2 := H2.out.q.cell2
      have qc3 := H2.out.q.cell3
      have qc4 := H2.out.q.cell4
      have qc5 := H2.out.q.cell5
      have qc6 := H2.out.q.cell6
      have qc7 := H2.out.q.cell7
      have qf1 := blk_frozen H2.out.q.blk 1
      have qf2 := blk_frozen H2.out.q.blk 2
      have qf3 := blk_frozen H2.out.q.blk 3
      have qf4 := blk_frozen H2.out.q.blk 4
      have qf5 := blk_frozen H2.out.q.blk 5
      have qf6 := blk_frozen H2.out.q.blk 6
      have qf7 := blk_frozen H2.out.q.blk 7
      generalize adOnly kind only = only1 at *
      obtain ⟨A2, c2, rfl⟩ := Kd.R_slice H2.out.r
      apply hK2
      go_wp2
      have hnb : g < wc.heap.size := World.block_lt_of_cell? _ _ qc1
      have al7 : ∀ o : Obj, (wc.drew.alloc o).cell? ⟨g, 7, none⟩ = some (.slice A2 l.length c2) := fun o => (World.cell?_alloc_past o g 7 hnb).trans qc7
      go_region_law ((refine Kd.R_append_step k48 (w0 := w0) w0.heap.size (by rfl) (.tmp 52) (.tmp 60) 24 48 (.agg #[(.int .i64 0), (.int .i64 0), (.int .i64 0)]) 24 (by rfl) Try.underlying24 info48 rfl (by decide) (by omega) (.slice A2 l.length c2) l (⟨kind, at_, e1⟩ : S48) [.int .i64 kind, .int .i64 at_, .int .i64 e1] (fun _ => True) (fun _ => False) (by rfl) (by rfl) (k48_mkM _ _ _ _) (fun _ hk => hk.elim) (fun _ _ => trivial) (H2.out.drewN 1).r (H2.out.drewN 1).B (H2.out.drewN 1).B.size (by omega) ?_; intro v1 w1 hr1 hb1 hg1 hat1; obtain ⟨Ao, co, eo⟩ := Kd.R_slice hr1; rw [show (l ++ [(⟨kind, at_, e1⟩ : S48)]).length = l.length + 1 by simp] at eo; subst eo; have hk1 := (H2.out.drewN 1).blk1 hg1; have sc7 := blk_cell hk1 7; have sf7 := blk_frozen hk1 7))
      all_goals
        have H4 := Aside0.mk ((H2.out.drewN 1).laid hr1 hb1 hg1)
        have gc1 := blk_cell hk1 1
        have gf1 := blk_frozen hk1 1
        go_wp2
        first | go_end0 | ((try simp only [Exit.inBlock, Exit.then]); refine bodyPost_ret (results_none rfl _ _ _) rfl ?_)
        exact ⟨rfl, _, by repeat (first | exact H4.out | exact H4.out.drewN _ | exact (H4.out.drewN _).drewN _ | (with_reducible first | apply RR.drew | apply RR.set1 | apply RR.set2 | apply RR.set3 | apply RR.set4 | apply RR.set5 | apply RR.set6))⟩

end Go.Proofs.Ytagjfcogbnhmgaa.Rf
