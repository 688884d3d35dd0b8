/- Proved here, in the forms of the print's contracts: what each Go function answers, and the rows of the laws over it; by a program and by hand. -/
import Derived.Test.YthoogadfhopkfaaQ0
import Derived.Test.YthoogadfhopkfaaQcorrectorlaw6
namespace Go.Proofs.Ythoogadfhopkfaa.Q
open Go.RowKit Go.Proofs.YthoogadfhopkfaaW.PrintWords Go.Proofs.YthoogadfhopkfaaW.PrintLast Go.Proofs.YthoogadfhopkfaaW.PrintMore
attribute [local go_sem] max2_int min2_int max_two min_two max_three min_three max_four min_four   -- for this text's walks alone
set_option linter.unusedVariables false
set_option linter.unusedSimpArgs false

/-! ### correctorlaw6_Text: function 11 -/
mutual
def correctorlaw6_Text.l0 : Nat → List Int → List Int → List Int → Int → Option (List Int)
  | 0, _, _, _, _ => none
  | k + 1, x0, x1, x5, x6 => if x6 < (x0.length : Int) then (correctorlaw6_Text.j1 k x0 x1 x5 x6 (decide (x6 < 60))) else (correctorlaw6_Text.j1 k x0 x1 x5 x6 false)
def correctorlaw6_Text.j1 : Nat → List Int → List Int → List Int → Int → Bool → Option (List Int)
  | 0, _, _, _, _, _ => none
  | k + 1, x0, x1, x5, x6, x14 => if x14 = true then (if x6 = (wrap64 ((x0.length : Int) / 2)) then (if 0 ≤ (mn (x1.length : Int) 30) then (if (mn (x1.length : Int) 30) ≤ (x1.length : Int) then (if x5.length + (x1.take ((mn (x1.length : Int) 30) : Int).toNat).length < 140737488355328 then ((some (x5 ++ (x1.take ((mn (x1.length : Int) 30) : Int).toNat) : List Int)).bind fun y108 => (if 0 ≤ x6 then (if x6 < (x0.length : Int) then ((correctorlaw6_Piece.f (rd x0 x6)).bind fun t112 => (if y108.length + t112.size < 140737488355328 then (correctorlaw6_Text.l0 k x0 x1 (y108 ++ bytesOf t112) (wrap64 (x6 + 1))) else (none))) else (none)) else (none))) else (none)) else (none)) else (none)) else (if 0 ≤ x6 then (if x6 < (x0.length : Int) then ((correctorlaw6_Piece.f (rd x0 x6)).bind fun t117 => (if x5.length + t117.size < 140737488355328 then (correctorlaw6_Text.l0 k x0 x1 (x5 ++ bytesOf t117) (wrap64 (x6 + 1))) else (none))) else (none)) else (none))) else (if 0 ≤ (mn (x5.length : Int) 400) then (if (mn (x5.length : Int) 400) ≤ (x5.length : Int) then (some (x5.take ((mn (x5.length : Int) 400) : Int).toNat)) else (none)) else (none))
end
def correctorlaw6_Text.f (k : Nat) (l0 : List Int) (l1 : List Int) : Option (List Int) := correctorlaw6_Text.l0 k l0 l1 ([] : List Int) 0
theorem correctorlaw6_Text.mono_l : ∀ k, (∀ y0 y1 y2 y3, LeO (correctorlaw6_Text.l0 k y0 y1 y2 y3) (correctorlaw6_Text.l0 (k + 1) y0 y1 y2 y3)) ∧ (∀ y0 y1 y2 y3 y4, LeO (correctorlaw6_Text.j1 k y0 y1 y2 y3 y4) (correctorlaw6_Text.j1 (k + 1) y0 y1 y2 y3 y4))
  | 0 => ⟨fun _ _ _ _ r h => by simp [correctorlaw6_Text.l0] at h, fun _ _ _ _ _ r h => by simp [correctorlaw6_Text.j1] at h⟩
  | k + 1 => by
    obtain ⟨ih0, ih1⟩ := correctorlaw6_Text.mono_l k
    refine ⟨?_, ?_⟩
    · intro y0 y1 y2 y3
      unfold correctorlaw6_Text.l0
      repeat' first
      | (with_reducible exact ih0 _ _ _ _)
      | (with_reducible exact ih1 _ _ _ _ _)
      | (with_reducible exact LeO.refl _)
      | (with_reducible exact LeO.none _)
      | (with_reducible refine LeO.ite ?_ ?_)
      | (with_reducible refine LeO.bind ?_ (fun _ => ?_))
      | exact ih0 _ _ _ _
      | exact ih1 _ _ _ _ _
      | exact LeO.none _
      | refine LeO.ite ?_ ?_
      | refine LeO.bind ?_ (fun _ => ?_)
    · intro y0 y1 y2 y3 y4
      unfold correctorlaw6_Text.j1
      repeat' first
      | (with_reducible exact ih0 _ _ _ _)
      | (with_reducible exact ih1 _ _ _ _ _)
      | (with_reducible exact LeO.refl _)
      | (with_reducible exact LeO.none _)
      | (with_reducible refine LeO.ite ?_ ?_)
      | (with_reducible refine LeO.bind ?_ (fun _ => ?_))
      | exact ih0 _ _ _ _
      | exact ih1 _ _ _ _ _
      | exact LeO.none _
      | refine LeO.ite ?_ ?_
      | refine LeO.bind ?_ (fun _ => ?_)
theorem correctorlaw6_Text.mono : ∀ a0 a1 k, LeO (correctorlaw6_Text.f k a0 a1) (correctorlaw6_Text.f (k + 1) a0 a1) := by
  intro a0 a1 k
  obtain ⟨ih0, ih1⟩ := correctorlaw6_Text.mono_l k
  unfold correctorlaw6_Text.f
  repeat' first
      | (with_reducible exact ih0 _ _ _ _)
      | (with_reducible exact ih1 _ _ _ _ _)
      | (with_reducible exact LeO.refl _)
      | (with_reducible exact LeO.none _)
      | (with_reducible refine LeO.ite ?_ ?_)
      | (with_reducible refine LeO.bind ?_ (fun _ => ?_))
      | exact ih0 _ _ _ _
      | exact ih1 _ _ _ _ _
      | exact LeO.none _
      | refine LeO.ite ?_ ?_
      | refine LeO.bind ?_ (fun _ => ?_)
set_option maxHeartbeats 8000000 in
set_option maxRecDepth 100000 in
theorem correctorlaw6_Text.calls (k : Nat) (A0 : Option Addr) (c0 : Nat) (l0 : List Int) (A1 : Option Addr) (c1 : Nat) (l1 : List Int) (r : List Int) (w : World) (hr0 : Kd.C (Kd.int .i64) w A0 l0.length l0) (hc0 : l0.length ≤ c0) (hr1 : Kd.C (Kd.int .u8) w A1 l1.length l1) (hc1 : l1.length ≤ c1) (h : correctorlaw6_Text.f k l0 l1 = some r) :
    Calls Try.prog 11 #[.slice A0 l0.length c0, .slice A1 l1.length c1] w fun e w' => ∃ v0_ : Value, e = .returned (v0_) ∧ Kd.R (Kd.int .u8) 5 w' w.heap.size (fun _ => True) v0_ r ∧ Below w.heap.size w w' := by
  have HR0 := Aside0.mk hr0
  have HC0 := Aside0.mk hc0
  clear hr0 hc0
  have HR1 := Aside0.mk hr1
  have HC1 := Aside0.mk hc1
  clear hr1 hc1
  have HB := Aside0.mk (Below.refl w.heap.size w)
  have H : (correctorlaw6_Text.l0 k l0 l1 ([] : List Int) 0) = some r := h
  clear h
  have H' := Aside0.mk H
  clear H
  go_enter Try.func11, Try.ntmps11
  go_wp2
  go_loopg [5, 6] k (fun kq v5 v6 w' => ∃ (x5_1 : List Int) (x6_1 : Int), v6 = .int .i64 x6_1 ∧ Aside0 (correctorlaw6_Text.l0 kq l0 l1 x5_1 x6_1 = some r) ∧ Aside0 (kq ≤ k) ∧ Aside0 (Kd.R (Kd.int .u8) 5 w' w.heap.size (fun _ => True) v5 x5_1) ∧ Aside0 (Below w.heap.size w w'))
  case atStart => exact ⟨(([] : List Int)), (0), (by first | rfl | (simp; done) | (simp [*]; done)), H', ⟨Nat.le_refl _⟩, ⟨by first | exact Kd.R_nil _ _ _ _ _ | exact Kd.N_nil _ _ _ _ _ | exact Kd.V_nil _ _ _ _ _ | exact Kd.Q_nil _ _ _ _ _ | exact Kd.S_nil _ _ _ _ _⟩, ⟨by repeat (first | (with_reducible first | exact HB.out | apply below_alloc | apply pw_below_drewN | apply below_drew1) | exact HB.out)⟩⟩
  case round =>
    clear H'
    try clear c1
    try clear p2
    obtain ⟨x5_1, x6_1, rfl, HA, HK1, HO_5, HB⟩ := hrel
    cases gk with
    | zero => exact absurd HA.out (by simp [correctorlaw6_Text.l0])
    | succ k1 =>
      have H := HA.out
      clear HA
      simp only [correctorlaw6_Text.l0] at H
      have HC3 := Aside0.mk H
      clear H
      go_upto_region 3 with (fail)
      go_cut [14] (fun v14 wc => ∃ (kq : Nat) (x14_2 : Bool), v14 = .bool x14_2 ∧ Aside0 (correctorlaw6_Text.j1 kq l0 l1 x5_1 x6_1 x14_2 = some r) ∧ Aside0 (kq ≤ k1) ∧ Aside0 (Kd.R (Kd.int .u8) 5 wc w.heap.size (fun _ => True) u5 x5_1) ∧ Aside0 (Below w.heap.size w wc))
      case first =>
        have H := HC3.out
        clear HC3
        by_cases c4 : x6_1 < (l0.length : Int)
        · rw [if_pos c4] at H
          have c4b0 : decide (x6_1 < (l0.length : Int)) = true := decide_eq_true c4
          clear c4
          (first | rw [c4b0] | (simp only [i64_w, i32_w]; rw [c4b0]) | skip)
          have H' := Aside0.mk H
          clear H
          go_wp2
          go_meet
          case rel => exact ⟨_, (decide (x6_1 < 60)), (by first | rfl | (simp; done) | (simp [*]; done)), H', ⟨by have := HK1.out; first | omega | exact Nat.le_refl _⟩, ⟨by (with_reducible repeat (first | apply Kd.R_alloc | apply Kd.R_drewN | apply Kd.R_drew)); exact HO_5.out⟩, ⟨by repeat (first | (with_reducible first | exact HB.out | apply below_alloc | apply pw_below_drewN | apply below_drew1) | exact HB.out)⟩⟩
        · rw [if_neg c4] at H
          have c4b0 : decide (x6_1 < (l0.length : Int)) = false := decide_eq_false c4
          clear c4
          (first | rw [c4b0] | (simp only [i64_w, i32_w]; rw [c4b0]) | skip)
          have H' := Aside0.mk H
          clear H
          go_wp2
          go_meet
          case rel => exact ⟨_, (false), (by first | rfl | (simp; done) | (simp [*]; done)), H', ⟨by have := HK1.out; first | omega | exact Nat.le_refl _⟩, ⟨by (with_reducible repeat (first | apply Kd.R_alloc | apply Kd.R_drewN | apply Kd.R_drew)); exact HO_5.out⟩, ⟨by repeat (first | (with_reducible first | exact HB.out | apply below_alloc | apply pw_below_drewN | apply below_drew1) | exact HB.out)⟩⟩
      case rest =>
        clear HC3
        try clear c1
        try clear p2
        try clear c4
        try clear c4b0
        try clear p2
        obtain ⟨kq, x14_2, rfl, HA, HJ2, HO_5, HB⟩ := hcut
        cases kq with
        | zero => exact absurd HA.out (by simp [correctorlaw6_Text.j1])
        | succ kj2 =>
          have H := HA.out
          clear HA
          simp only [correctorlaw6_Text.j1] at H
          by_cases c5 : x14_2 = true
          · subst c5
            have H1 : (if x6_1 = (wrap64 ((l0.length : Int) / 2)) then (if 0 ≤ (mn (l1.length : Int) 30) then (if (mn (l1.length : Int) 30) ≤ (l1.length : Int) then (if x5_1.length + (l1.take ((mn (l1.length : Int) 30) : Int).toNat).length < 140737488355328 then ((some (x5_1 ++ (l1.take ((mn (l1.length : Int) 30) : Int).toNat) : List Int)).bind fun y108 => (if 0 ≤ x6_1 then (if x6_1 < (l0.length : Int) then ((correctorlaw6_Piece.f (rd l0 x6_1)).bind fun t112 => (if y108.length + t112.size < 140737488355328 then (correctorlaw6_Text.l0 kj2 l0 l1 (y108 ++ bytesOf t112) (wrap64 (x6_1 + 1))) else (none))) else (none)) else (none))) else (none)) else (none)) else (none)) else (if 0 ≤ x6_1 then (if x6_1 < (l0.length : Int) then ((correctorlaw6_Piece.f (rd l0 x6_1)).bind fun t117 => (if x5_1.length + t117.size < 140737488355328 then (correctorlaw6_Text.l0 kj2 l0 l1 (x5_1 ++ bytesOf t117) (wrap64 (x6_1 + 1))) else (none))) else (none)) else (none))) = some r := by rw [if_pos rfl] at H; exact H
            clear H
            have H := H1
            clear H1
            by_cases c6 : x6_1 = (wrap64 ((l0.length : Int) / 2))
            · rw [if_pos c6] at H
              have c6b0 : (x6_1 == (wrap64 ((l0.length : Int) / 2))) = true := beq_iff_eq.mpr c6
              have c6b1 : (x6_1 != (wrap64 ((l0.length : Int) / 2))) = false := bne_eq_false_iff_eq.mpr c6
              clear c6
              obtain ⟨ji7, hji7⟩ : ∃ j_ : Int, (mn (l1.length : Int) 30) = j_ := ⟨_, rfl⟩
              replace H : (if 0 ≤ (ji7) then (if (ji7) ≤ (l1.length : Int) then (if x5_1.length + (l1.take ((ji7) : Int).toNat).length < 140737488355328 then ((some (x5_1 ++ (l1.take ((ji7) : Int).toNat) : List Int)).bind fun y108 => (if 0 ≤ x6_1 then (if x6_1 < (l0.length : Int) then ((correctorlaw6_Piece.f (rd l0 x6_1)).bind fun t112 => (if y108.length + t112.size < 140737488355328 then (correctorlaw6_Text.l0 kj2 l0 l1 (y108 ++ bytesOf t112) (wrap64 (x6_1 + 1))) else (none))) else (none)) else (none))) else (none)) else (none)) else (none)) = some r := by first | (rw [hji7] at H; exact H) | (simp only [hji7] at H ⊢; exact H)
              have hji7_ : (if 30 < (l1.length : Int) then 30 else (l1.length : Int)) = ji7 := hji7
              by_cases c8 : 0 ≤ (ji7)
              · rw [if_pos c8] at H
                have c8b0 := eq_true c8
                have c8b1 : decide (0 ≤ (ji7)) = true := decide_eq_true c8
                clear c8
                by_cases c9 : (ji7) ≤ (l1.length : Int)
                · rw [if_pos c9] at H
                  have c9b0 := eq_true c9
                  have c9b1 : decide ((ji7) ≤ (l1.length : Int)) = true := decide_eq_true c9
                  (try (have c9y := eq_true (show 0 ≤ (l1.length : Int) from Int.le_trans (of_eq_true (by assumption : (0 ≤ (ji7)) = True)) c9)))
                  clear c9
                  by_cases c10 : x5_1.length + (l1.take ((ji7) : Int).toNat).length < 140737488355328
                  · rw [if_pos c10] at H
                    have LMc10 := Aside0.mk c10
                    clear c10
                    obtain ⟨y108, hy108⟩ : ∃ y_ : List Int, y_ = (x5_1 ++ (l1.take ((ji7) : Int).toNat)) := ⟨_, rfl⟩
                    replace H : (if 0 ≤ x6_1 then (if x6_1 < (l0.length : Int) then ((correctorlaw6_Piece.f (rd l0 x6_1)).bind fun t112 => (if y108.length + t112.size < 140737488355328 then (correctorlaw6_Text.l0 kj2 l0 l1 (y108 ++ bytesOf t112) (wrap64 (x6_1 + 1))) else (none))) else (none)) else (none)) = some r := by first | (rw [hy108]; with_reducible exact H) | (have H2_ := (Option.bind_some _ _).symm.trans H; rw [hy108]; with_reducible exact H2_) | (have H2_ := (Option.bind_some _ _).symm.trans H; with_reducible exact H2_) | with_reducible exact H | (rw [hy108]; exact H) | exact H
                    have Ny108 := Aside0.mk hy108
                    clear hy108
                    by_cases c11 : 0 ≤ x6_1
                    · rw [if_pos c11] at H
                      have c11b0 : decide (0 ≤ x6_1) = true := decide_eq_true c11
                      clear c11
                      by_cases c12 : x6_1 < (l0.length : Int)
                      · rw [if_pos c12] at H
                        have c12b0 : decide (x6_1 < (l0.length : Int)) = true := decide_eq_true c12
                        clear c12
                        replace H := Option.bind_eq_some_iff.mp H
                        obtain ⟨t112, A130, H⟩ := H
                        replace H : (if y108.length + t112.size < 140737488355328 then (correctorlaw6_Text.l0 kj2 l0 l1 (y108 ++ bytesOf t112) (wrap64 (x6_1 + 1))) else (none)) = some r := H
                        have A13 := Aside0.mk A130
                        clear A130
                        by_cases c14 : y108.length + t112.size < 140737488355328
                        · rw [if_pos c14] at H
                          have LMc14 := Aside0.mk c14
                          clear c14
                          obtain ⟨y113, hy113⟩ : ∃ y_ : List Int, y_ = (y108 ++ bytesOf t112) := ⟨_, rfl⟩
                          replace H : (correctorlaw6_Text.l0 kj2 l0 l1 y113 (wrap64 (x6_1 + 1))) = some r := by first | (rw [hy113]; with_reducible exact H) | (have H2_ := (Option.bind_some _ _).symm.trans H; rw [hy113]; with_reducible exact H2_) | (have H2_ := (Option.bind_some _ _).symm.trans H; with_reducible exact H2_) | with_reducible exact H | (rw [hy113]; exact H) | exact H
                          have Ny113 := Aside0.mk hy113
                          clear hy113
                          have H' := Aside0.mk H
                          clear H
                          obtain ⟨i015, hi015, _, hsz15, _⟩ := info_parts info5
                          obtain ⟨hcut15, hA15, hC15⟩ := print_take_of (P := Try.prog) (Value.int .u8) 0 23 5 .i64 Try.underlying23 hi015 hsz15 A1 c1 l1 (ji7) (of_decide_eq_true (by first | (with_reducible assumption) | assumption)) (of_decide_eq_true (by first | (with_reducible assumption) | assumption)) HC1.out
                          have HR107 := Aside0.mk (Kd.C_of_reads (h1 := fun _ => rfl) (hA15 _ (Kd.reads_of_C HR1.out)))
                          have HC107 := Aside0.mk hC15
                          clear hA15 hC15 hi015 hsz15
                          go_wp2_with (first | ((with_reducible refine gate_builtin (b := .append) (xs := #[.tmp 22, .tmp 27]) rfl ?_); at_builtin; refine Kd.R_append_rows (Kd.int .u8) (w0 := w) w.heap.size rfl (.tmp 22) (.tmp 27) 23 5 (.int .u8 0) 1 rfl Try.underlying23 info5 rfl (by decide) (by omega) u5 x5_1 (l1.take ((ji7) : Int).toNat) _ _ _ (fun _ => True) (fun _ => False) rfl rfl ?aO ?aR (fun _ _ h => h) (fun _ h => h.elim) ?aF ?aB ?aS ?aL ?_; (case aR => first | (have hx_ : (l1.take ((ji7) : Int).toNat).length = (ji7).toNat := (by rw [List.length_take]; have h_ : ((ji7) : Int) ≤ (l1.length : Int) := of_decide_eq_true (by first | (with_reducible assumption) | assumption); omega); have hy_ := HR107.out; rw [hx_] at hy_; exact (Kd.C_below hy_ HB.out)) | (rw [← show (l1.take ((ji7) : Int).toNat).length = (ji7).toNat from (by rw [List.length_take]; have h_ : ((ji7) : Int) ≤ (l1.length : Int) := of_decide_eq_true (by first | (with_reducible assumption) | assumption); omega)]; repeat (first | exact (Kd.C_below HR107.out HB.out) | (with_reducible refine Kd.C_alloc ?_ _) | (with_reducible refine Kd.C_drewN ?_ _) | (with_reducible refine Kd.C_drew ?_))) | (repeat (first | exact (Kd.C_below HR107.out HB.out) | (with_reducible refine Kd.C_alloc ?_ _) | (with_reducible refine Kd.C_drewN ?_ _) | (with_reducible refine Kd.C_drew ?_)))); (case aB => exact (by repeat (first | (with_reducible first | exact HB.out | apply below_alloc | apply pw_below_drewN | apply below_drew1) | exact HB.out))); (case aF => exact (fun _ _ => trivial)); (case aO => exact (by (with_reducible repeat (first | apply Kd.R_alloc | apply Kd.R_drewN | apply Kd.R_drew)); exact HO_5.out)); (case aS => exact (below_size (by repeat (first | (with_reducible first | exact HB.out | apply below_alloc | apply pw_below_drewN | apply below_drew1) | exact HB.out)))); (case aL => have := LMc10.out; have hlx_ := (show (l1.take ((ji7) : Int).toNat).length = (ji7).toNat from (by rw [List.length_take]; have h_ : ((ji7) : Int) ≤ (l1.length : Int) := of_decide_eq_true (by first | (with_reducible assumption) | assumption); omega)); omega); intro v109 w16 ho hb hg hat; rw [← Ny108.out] at ho; have n0_ := Aside0.mk (hb); have n1_ := Aside0.mk (ho); clear HB; clear HO_5; have HB := n0_; have HO110 := n1_; clear n0_ n1_; clear ho hb hg hat; have p111 : 0 ≤ (x6_1 : Int) := of_decide_eq_true (by first | (with_reducible assumption) | assumption); have q111 : x6_1 < (l0.length : Int) := of_decide_eq_true (by first | (with_reducible assumption) | assumption); obtain ⟨ad111, e111, hx111_0⟩ := Kd.at_int HR0.out x6_1 p111 q111; cases e111; replace hx111_0 := (HB.out.cell (World.block_lt_of_cell? w _ hx111_0)).trans hx111_0; replace p111 := eq_true p111; replace q111 := eq_true q111) | ((with_reducible refine gate_callee (f := 17) rfl ?_); refine goesL_ (some 34) rfl rfl Try.func17 (by kernel_rfl) rfl #[.int .i64 (rd l0 x6_1)] rfl (by (try simp only [List.map_toArray, List.map_cons, List.map_nil]); first | done | rfl | (simp only [List.length_drop, List.length_take]; rfl) | (simp only [ByteArray.size_extract, Nat.min_self]; done) | (simp only [ByteArray.size_extract, Nat.min_self]; rfl)) ?_; (with_reducible refine (correctorlaw6_Piece.calls (rd l0 x6_1) t112 _ A13.out).mono ?_); rintro e w17 ⟨rfl, hb⟩; refine ⟨_, rfl, ?_⟩; have n0_ := Aside0.mk (Kd.R_below (by (with_reducible repeat (first | apply Kd.R_alloc | apply Kd.R_drewN | apply Kd.R_drew)); exact HO110.out) hb); have n1_ := Aside0.mk (below_step (by repeat (first | (with_reducible first | exact HB.out | apply below_alloc | apply pw_below_drewN | apply below_drew1) | exact HB.out)) hb); clear HO110; clear HB; have HO110 := n0_; have HB := n1_; clear n0_ n1_; (try clear hb); (try clear hb2); (try clear hk); (try clear hi)) | (at_builtin; refine print_append_str (w0 := w) w.heap.size rfl (.tmp 29) _ 23 9 5 rfl Try.underlying23 Try.underlying9 info5 v109 y108 t112 rfl rfl ?aO ?aB ?aS ?aL ?_; (case aB => exact (by repeat (first | (with_reducible first | exact HB.out | apply below_alloc | apply pw_below_drewN | apply below_drew1) | exact HB.out))); (case aO => exact (Kd.own_of_R (by (with_reducible repeat (first | apply Kd.R_alloc | apply Kd.R_drewN | apply Kd.R_drew)); exact HO110.out))); (case aS => exact (below_size (by repeat (first | (with_reducible first | exact HB.out | apply below_alloc | apply pw_below_drewN | apply below_drew1) | exact HB.out)))); (case aL => have := LMc14.out; omega); intro v114 w18 ho0 hb hg; have ho := Kd.R_of_own (h1 := fun _ => rfl) (ok := fun _ => True) ho0 (fun _ _ => trivial); clear ho0; have hat := True.intro; rw [← Ny113.out] at ho; change Kd.R (Kd.int .u8) 5 w18 w.heap.size (fun _ => True) v114 y113 at ho; have n0_ := Aside0.mk (hb); have n1_ := Aside0.mk (ho); clear HB; clear HO110; have HB := n0_; have HO115 := n1_; clear n0_ n1_; clear ho hb hg hat))
                          go_roundg kj2
                          case measure => have := HK1.out; have := HJ2.out; omega
                          case rel => exact ⟨(y113), (wrap64 (x6_1 + 1)), (by first | rfl | (simp; done) | (simp [*]; done)), H', ⟨by have := HK1.out; have := HJ2.out; omega⟩, ⟨by (with_reducible repeat (first | apply Kd.R_alloc | apply Kd.R_drewN | apply Kd.R_drew)); exact HO115.out⟩, ⟨by repeat (first | (with_reducible first | exact HB.out | apply below_alloc | apply pw_below_drewN | apply below_drew1) | exact HB.out)⟩⟩
                        · rw [if_neg c14] at H
                          exact absurd H (by simp)
                      · rw [if_neg c12] at H
                        exact absurd H (by simp)
                    · rw [if_neg c11] at H
                      exact absurd H (by simp)
                  · rw [if_neg c10] at H
                    exact absurd H (by simp)
                · rw [if_neg c9] at H
                  exact absurd H (by simp)
              · rw [if_neg c8] at H
                exact absurd H (by simp)
            · rw [if_neg c6] at H
              have c6b0 : (x6_1 == (wrap64 ((l0.length : Int) / 2))) = false := beq_eq_false_iff_ne.mpr c6
              have c6b1 : (x6_1 != (wrap64 ((l0.length : Int) / 2))) = true := bne_iff_ne.mpr c6
              by_cases c19 : 0 ≤ x6_1
              · rw [if_pos c19] at H
                have c19b0 : decide (0 ≤ x6_1) = true := decide_eq_true c19
                clear c19
                by_cases c20 : x6_1 < (l0.length : Int)
                · rw [if_pos c20] at H
                  have c20b0 : decide (x6_1 < (l0.length : Int)) = true := decide_eq_true c20
                  clear c20
                  replace H := Option.bind_eq_some_iff.mp H
                  obtain ⟨t117, A210, H⟩ := H
                  replace H : (if x5_1.length + t117.size < 140737488355328 then (correctorlaw6_Text.l0 kj2 l0 l1 (x5_1 ++ bytesOf t117) (wrap64 (x6_1 + 1))) else (none)) = some r := H
                  have A21 := Aside0.mk A210
                  clear A210
                  by_cases c22 : x5_1.length + t117.size < 140737488355328
                  · rw [if_pos c22] at H
                    have LMc22 := Aside0.mk c22
                    clear c22
                    obtain ⟨y118, hy118⟩ : ∃ y_ : List Int, y_ = (x5_1 ++ bytesOf t117) := ⟨_, rfl⟩
                    replace H : (correctorlaw6_Text.l0 kj2 l0 l1 y118 (wrap64 (x6_1 + 1))) = some r := by first | (rw [hy118]; with_reducible exact H) | (have H2_ := (Option.bind_some _ _).symm.trans H; rw [hy118]; with_reducible exact H2_) | (have H2_ := (Option.bind_some _ _).symm.trans H; with_reducible exact H2_) | with_reducible exact H | (rw [hy118]; exact H) | exact H
                    have Ny118 := Aside0.mk hy118
                    clear hy118
                    have H' := Aside0.mk H
                    clear H
                    have p116 : 0 ≤ (x6_1 : Int) := of_decide_eq_true (by first | (with_reducible assumption) | assumption)
                    have q116 : x6_1 < (l0.length : Int) := of_decide_eq_true (by first | (with_reducible assumption) | assumption)
                    obtain ⟨ad116, e116, hx116_0⟩ := Kd.at_int HR0.out x6_1 p116 q116
                    cases e116
                    replace hx116_0 := (HB.out.cell (World.block_lt_of_cell? w _ hx116_0)).trans hx116_0
                    replace p116 := eq_true p116
                    replace q116 := eq_true q116
                    go_wp2_with (first | ((with_reducible refine gate_callee (f := 17) rfl ?_); refine goesL_ (some 34) rfl rfl Try.func17 (by kernel_rfl) rfl #[.int .i64 (rd l0 x6_1)] rfl (by (try simp only [List.map_toArray, List.map_cons, List.map_nil]); first | done | rfl | (simp only [List.length_drop, List.length_take]; rfl) | (simp only [ByteArray.size_extract, Nat.min_self]; done) | (simp only [ByteArray.size_extract, Nat.min_self]; rfl)) ?_; (with_reducible refine (correctorlaw6_Piece.calls (rd l0 x6_1) t117 _ A21.out).mono ?_); rintro e w23 ⟨rfl, hb⟩; refine ⟨_, rfl, ?_⟩; have n0_ := Aside0.mk (Kd.R_below (by (with_reducible repeat (first | apply Kd.R_alloc | apply Kd.R_drewN | apply Kd.R_drew)); exact HO_5.out) hb); have n1_ := Aside0.mk (below_step (by repeat (first | (with_reducible first | exact HB.out | apply below_alloc | apply pw_below_drewN | apply below_drew1) | exact HB.out)) hb); clear HO_5; clear HB; have HO_5 := n0_; have HB := n1_; clear n0_ n1_; (try clear hb); (try clear hb2); (try clear hk); (try clear hi)) | (at_builtin; refine print_append_str (w0 := w) w.heap.size rfl (.tmp 29) _ 23 9 5 rfl Try.underlying23 Try.underlying9 info5 u5 x5_1 t117 rfl rfl ?aO ?aB ?aS ?aL ?_; (case aB => exact (by repeat (first | (with_reducible first | exact HB.out | apply below_alloc | apply pw_below_drewN | apply below_drew1) | exact HB.out))); (case aO => exact (Kd.own_of_R (by (with_reducible repeat (first | apply Kd.R_alloc | apply Kd.R_drewN | apply Kd.R_drew)); exact HO_5.out))); (case aS => exact (below_size (by repeat (first | (with_reducible first | exact HB.out | apply below_alloc | apply pw_below_drewN | apply below_drew1) | exact HB.out)))); (case aL => have := LMc22.out; omega); intro v119 w24 ho0 hb hg; have ho := Kd.R_of_own (h1 := fun _ => rfl) (ok := fun _ => True) ho0 (fun _ _ => trivial); clear ho0; have hat := True.intro; rw [← Ny118.out] at ho; change Kd.R (Kd.int .u8) 5 w24 w.heap.size (fun _ => True) v119 y118 at ho; have n0_ := Aside0.mk (hb); have n1_ := Aside0.mk (ho); clear HB; clear HO_5; have HB := n0_; have HO120 := n1_; clear n0_ n1_; clear ho hb hg hat))
                    go_roundg kj2
                    case measure => have := HK1.out; have := HJ2.out; omega
                    case rel => exact ⟨(y118), (wrap64 (x6_1 + 1)), (by first | rfl | (simp; done) | (simp [*]; done)), H', ⟨by have := HK1.out; have := HJ2.out; omega⟩, ⟨by (with_reducible repeat (first | apply Kd.R_alloc | apply Kd.R_drewN | apply Kd.R_drew)); exact HO120.out⟩, ⟨by repeat (first | (with_reducible first | exact HB.out | apply below_alloc | apply pw_below_drewN | apply below_drew1) | exact HB.out)⟩⟩
                  · rw [if_neg c22] at H
                    exact absurd H (by simp)
                · rw [if_neg c20] at H
                  exact absurd H (by simp)
              · rw [if_neg c19] at H
                exact absurd H (by simp)
          · replace c5 := Bool.eq_false_iff.mpr c5
            subst c5
            have H1 : (if 0 ≤ (mn (x5_1.length : Int) 400) then (if (mn (x5_1.length : Int) 400) ≤ (x5_1.length : Int) then (some (x5_1.take ((mn (x5_1.length : Int) 400) : Int).toNat)) else (none)) else (none)) = some r := by rw [if_neg (show ¬ (false = true) by decide)] at H; exact H
            clear H
            have H := H1
            clear H1
            obtain ⟨ji25, hji25⟩ : ∃ j_ : Int, (mn (x5_1.length : Int) 400) = j_ := ⟨_, rfl⟩
            replace H : (if 0 ≤ (ji25) then (if (ji25) ≤ (x5_1.length : Int) then (some (x5_1.take ((ji25) : Int).toNat)) else (none)) else (none)) = some r := by first | (rw [hji25] at H; exact H) | (simp only [hji25] at H ⊢; exact H)
            have hji25_ : (if 400 < (x5_1.length : Int) then 400 else (x5_1.length : Int)) = ji25 := hji25
            by_cases c26 : 0 ≤ (ji25)
            · rw [if_pos c26] at H
              have c26b0 := eq_true c26
              have c26b1 : decide (0 ≤ (ji25)) = true := decide_eq_true c26
              clear c26
              by_cases c27 : (ji25) ≤ (x5_1.length : Int)
              · rw [if_pos c27] at H
                have c27b0 := eq_true c27
                have c27b1 : decide ((ji25) ≤ (x5_1.length : Int)) = true := decide_eq_true c27
                (try (have c27y := eq_true (show 0 ≤ (x5_1.length : Int) from Int.le_trans (of_eq_true (by assumption : (0 ≤ (ji25)) = True)) c27)))
                clear c27
                obtain ⟨y121, hy121⟩ : ∃ y_ : List Int, y_ = (x5_1.take ((ji25) : Int).toNat) := ⟨_, rfl⟩
                replace H : (some y121) = some r := by first | (rw [hy121]; with_reducible exact H) | (have H2_ := (Option.bind_some _ _).symm.trans H; rw [hy121]; with_reducible exact H2_) | (have H2_ := (Option.bind_some _ _).symm.trans H; with_reducible exact H2_) | with_reducible exact H | (rw [hy121]; exact H) | exact H
                have Ny121 := Aside0.mk hy121
                clear hy121
                obtain rfl := Option.some.inj H
                obtain ⟨Ao28, co28, eo28⟩ := Kd.R_slice HO_5.out
                subst eo28
                have q29 : ((ji25) : Int) ≤ ((x5_1.length : Int) : Int) := of_decide_eq_true (by first | (with_reducible assumption) | assumption)
                obtain ⟨i029, hi029, _, hsz29, _⟩ := info_parts info5
                have hcut29 := cut_to (P := Try.prog) 23 5 .i64 Try.underlying23 hi029 Ao28 x5_1.length co28 (ji25) (of_decide_eq_true (by first | (with_reducible assumption) | assumption)) q29 (Kd.R_reads' HO_5.out).2.1
                have hr29 := Kd.R_take (m := ((ji25) : Int).toNat) HO_5.out (by omega)
                have hy29 : y121.length = ((ji25) : Int).toNat := (by rw [Ny121.out, List.length_take]; omega)
                rw [← Ny121.out] at hr29
                rw [← hy29] at hr29 hcut29
                clear hy29 hi029 hsz29 HO_5
                have HO123 := Aside0.mk hr29
                clear hr29
                replace q29 := eq_true q29
                go_wp2
                go_ret
                exact ⟨_, by first | rfl | (simp [errW_none, errW_some] <;> rfl) | (simp only [← hji25]; first | rfl | (simp [errW_none, errW_some] <;> rfl)) | (simp [*, errW_none, errW_some] <;> rfl), by (with_reducible repeat (first | apply Kd.R_alloc | apply Kd.R_drewN | apply Kd.R_drew)); exact HO123.out, by repeat (first | (with_reducible first | exact HB.out | apply below_alloc | apply pw_below_drewN | apply below_drew1) | exact HB.out)⟩
              · rw [if_neg c27] at H
                exact absurd H (by simp)
            · rw [if_neg c26] at H
              exact absurd H (by simp)

end Go.Proofs.Ythoogadfhopkfaa.Q
