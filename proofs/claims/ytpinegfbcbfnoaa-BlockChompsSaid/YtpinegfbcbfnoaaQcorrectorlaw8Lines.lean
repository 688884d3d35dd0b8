/- Proved here, in the forms of the print's contracts: what each Go function answers, and the rows of the laws over it; by a program and by hand. -/
import Derived.Test.YtpinegfbcbfnoaaQ0
import Derived.Test.YtpinegfbcbfnoaaQcorrectorlaw8
namespace Go.Proofs.Ytpinegfbcbfnoaa.Q
open Go.RowKit Go.Proofs.YtpinegfbcbfnoaaW.PrintWords Go.Proofs.YtpinegfbcbfnoaaW.PrintLast Go.Proofs.YtpinegfbcbfnoaaW.PrintMore
attribute [local go_sem] max2_int min2_int max_two min_two max_three min_three max_four min_four   -- for this text's walks alone
set_option linter.unusedVariables false
set_option linter.unusedSimpArgs false

/-! ### correctorlaw8_Lines: function 12 -/
mutual
def correctorlaw8_Lines.l0 : Nat → List Int → List ByteArray → Int → Option (List ByteArray)
  | 0, _, _, _ => none
  | k + 1, x0, x3, x4 => if x4 < (x0.length : Int) then (correctorlaw8_Lines.j1 k x0 x3 x4 (decide (x4 < 20))) else (correctorlaw8_Lines.j1 k x0 x3 x4 false)
def correctorlaw8_Lines.j1 : Nat → List Int → List ByteArray → Int → Bool → Option (List ByteArray)
  | 0, _, _, _, _ => none
  | k + 1, x0, x3, x4, x13 => if x13 = true then (if 0 ≤ x4 then (if x4 < (x0.length : Int) then ((correctorlaw8_within.f (rd x0 x4) 7).bind fun t229 => (if 0 ≤ t229 then (if t229 ≤ 10 then ((some (([(⟨#[]⟩ : ByteArray), (⟨#[]⟩ : ByteArray), (⟨#[97]⟩ : ByteArray), (⟨#[116, 119, 111, 32, 119, 111, 114, 100, 115]⟩ : ByteArray), (⟨#[9]⟩ : ByteArray), (⟨#[45, 32, 98]⟩ : ByteArray), (⟨#[32, 120]⟩ : ByteArray), (⟨#[195, 169]⟩ : ByteArray), (⟨#[35, 32, 99]⟩ : ByteArray)] : List ByteArray) : List ByteArray)).bind fun y230 => ((correctorlaw8_within.f (wrap64 (Int.tdiv (rd x0 x4) 7)) 9).bind fun t234 => (if 0 ≤ t234 then (if t234 < (y230.length : Int) then (if ((⟨#[32, 32, 32, 32, 32, 32, 32, 32, 32, 32]⟩ : ByteArray).extract 0 (t229 : Int).toNat).size + (rdOf ByteArray.empty y230 t234).size ≤ 9223372036854775807 then ((some (([(⟨#[10]⟩ : ByteArray), (⟨#[13, 10]⟩ : ByteArray), (⟨#[10]⟩ : ByteArray), (⟨#[13]⟩ : ByteArray)] : List ByteArray) : List ByteArray)).bind fun y236 => ((correctorlaw8_within.f (wrap64 (Int.tdiv (rd x0 x4) 63)) 4).bind fun t240 => (if 0 ≤ t240 then (if t240 < (y236.length : Int) then (if (((⟨#[32, 32, 32, 32, 32, 32, 32, 32, 32, 32]⟩ : ByteArray).extract 0 (t229 : Int).toNat) ++ (rdOf ByteArray.empty y230 t234)).size + (rdOf ByteArray.empty y236 t240).size ≤ 9223372036854775807 then (if x3.length < 8796093022208 then (correctorlaw8_Lines.l0 k x0 (x3 ++ [(((⟨#[32, 32, 32, 32, 32, 32, 32, 32, 32, 32]⟩ : ByteArray).extract 0 (t229 : Int).toNat) ++ (rdOf ByteArray.empty y230 t234)) ++ (rdOf ByteArray.empty y236 t240)]) (wrap64 (x4 + 1))) else (none)) else (none)) else (none)) else (none)))) else (none)) else (none)) else (none)))) else (none)) else (none))) else (none)) else (none)) else (some x3)
end
def correctorlaw8_Lines.f (k : Nat) (l0 : List Int) : Option (List ByteArray) := correctorlaw8_Lines.l0 k l0 ([] : List ByteArray) 0
theorem correctorlaw8_Lines.mono_l : ∀ k, (∀ y0 y1 y2, LeO (correctorlaw8_Lines.l0 k y0 y1 y2) (correctorlaw8_Lines.l0 (k + 1) y0 y1 y2)) ∧ (∀ y0 y1 y2 y3, LeO (correctorlaw8_Lines.j1 k y0 y1 y2 y3) (correctorlaw8_Lines.j1 (k + 1) y0 y1 y2 y3))
  | 0 => ⟨fun _ _ _ r h => by simp [correctorlaw8_Lines.l0] at h, fun _ _ _ _ r h => by simp [correctorlaw8_Lines.j1] at h⟩
  | k + 1 => by
    obtain ⟨ih0, ih1⟩ := correctorlaw8_Lines.mono_l k
    refine ⟨?_, ?_⟩
    · intro y0 y1 y2
      unfold correctorlaw8_Lines.l0
      repeat' first
      | (with_reducible exact ih0 _ _ _)
      | (with_reducible exact ih1 _ _ _ _)
      | (with_reducible exact LeO.refl _)
      | (with_reducible exact LeO.none _)
      | (with_reducible refine LeO.ite ?_ ?_)
      | (with_reducible refine LeO.bind ?_ (fun _ => ?_))
      | exact ih0 _ _ _
      | exact ih1 _ _ _ _
      | exact LeO.none _
      | refine LeO.ite ?_ ?_
      | refine LeO.bind ?_ (fun _ => ?_)
    · intro y0 y1 y2 y3
      unfold correctorlaw8_Lines.j1
      repeat' first
      | (with_reducible exact ih0 _ _ _)
      | (with_reducible exact ih1 _ _ _ _)
      | (with_reducible exact LeO.refl _)
      | (with_reducible exact LeO.none _)
      | (with_reducible refine LeO.ite ?_ ?_)
      | (with_reducible refine LeO.bind ?_ (fun _ => ?_))
      | exact ih0 _ _ _
      | exact ih1 _ _ _ _
      | exact LeO.none _
      | refine LeO.ite ?_ ?_
      | refine LeO.bind ?_ (fun _ => ?_)
theorem correctorlaw8_Lines.mono : ∀ a0 k, LeO (correctorlaw8_Lines.f k a0) (correctorlaw8_Lines.f (k + 1) a0) := by
  intro a0 k
  obtain ⟨ih0, ih1⟩ := correctorlaw8_Lines.mono_l k
  unfold correctorlaw8_Lines.f
  repeat' first
      | (with_reducible exact ih0 _ _ _)
      | (with_reducible exact ih1 _ _ _ _)
      | (with_reducible exact LeO.refl _)
      | (with_reducible exact LeO.none _)
      | (with_reducible refine LeO.ite ?_ ?_)
      | (with_reducible refine LeO.bind ?_ (fun _ => ?_))
      | exact ih0 _ _ _
      | exact ih1 _ _ _ _
      | exact LeO.none _
      | refine LeO.ite ?_ ?_
      | refine LeO.bind ?_ (fun _ => ?_)
def correctorlaw8_Lines.T5 : Bool × List (List Nat × List Nat) := (true, [([], []), ([], []), ([0, 1], [0, 1]), ([2], [2]), ([3], [3]), ([4], [4]), ([], []), ([], []), ([], []), ([7, 8], [7, 8]), ([9], [9]), ([10], [10]), ([11, 4], [11]), ([6, 12], [6, 12]), ([13], [13]), ([5, 14], [5, 14]), ([15, 12, 0, 1, 2, 3, 4, 5, 6, 7, 8, 9, 10, 11, 12, 13, 14, 15], [15])])
def correctorlaw8_Lines.B5 : List Nat := [0, 0, 3, 7, 15, 31, 0, 0, 0, 384, 896, 1920, 3999, 8159, 16351, 32767, 65535]
theorem correctorlaw8_Lines.tab5 : rtab .any (opsOf Try.f12 5) = correctorlaw8_Lines.T5 := by kernel_rfl
theorem correctorlaw8_Lines.bits5 : waitsOk correctorlaw8_Lines.T5.2 correctorlaw8_Lines.B5 = true := by kernel_rfl
set_option maxHeartbeats 8000000 in
set_option maxRecDepth 100000 in
theorem correctorlaw8_Lines.calls (k : Nat) (A0 : Option Addr) (c0 : Nat) (l0 : List Int) (r : List ByteArray) (w : World) (hr0 : Kd.C (Kd.int .i64) w A0 l0.length l0) (hc0 : l0.length ≤ c0) (h : correctorlaw8_Lines.f k l0 = some r) :
    Calls Try.prog 12 #[.slice A0 l0.length c0] w fun e w' => ∃ v0_ : Value, e = .returned (v0_) ∧ Kd.R Kd.string 9 w' w.heap.size (fun _ => True) v0_ r ∧ Below w.heap.size w w' := by
  have HR0 := Aside0.mk hr0
  have HC0 := Aside0.mk hc0
  clear hr0 hc0
  have HB := Aside0.mk (Below.refl w.heap.size w)
  have H : (correctorlaw8_Lines.l0 k l0 ([] : List ByteArray) 0) = some r := h
  clear h
  have H' := Aside0.mk H
  clear H
  go_enter Try.func12, Try.ntmps12
  go_wp2
  go_loopg [3, 4] k (fun kq v3 v4 w' => ∃ (x3_1 : List ByteArray) (x4_1 : Int), v4 = .int .i64 x4_1 ∧ Aside0 (correctorlaw8_Lines.l0 kq l0 x3_1 x4_1 = some r) ∧ Aside0 (kq ≤ k) ∧ Aside0 (Kd.R Kd.string 9 w' w.heap.size (fun _ => True) v3 x3_1) ∧ Aside0 (Below w.heap.size w w'))
  case atStart => exact ⟨(([] : List ByteArray)), (0), (by first | rfl | (simp; done) | (simp [*]; done)), H', ⟨Nat.le_refl _⟩, ⟨by first | exact Kd.R_nil _ _ _ _ _ | exact Kd.N_nil _ _ _ _ _ | exact Kd.V_nil _ _ _ _ _ | exact Kd.Q_nil _ _ _ _ _ | exact Kd.S_nil _ _ _ _ _⟩, ⟨by repeat (first | (with_reducible first | exact HB.out | apply below_alloc | apply pw_below_drewN | apply below_drew1) | exact HB.out)⟩⟩
  case round =>
    clear H'
    try clear c1
    obtain ⟨x3_1, x4_1, rfl, HA, HK1, HO_3, HB⟩ := hrel
    cases gk with
    | zero => exact absurd HA.out (by simp [correctorlaw8_Lines.l0])
    | succ k1 =>
      have H := HA.out
      clear HA
      simp only [correctorlaw8_Lines.l0] at H
      have HC2 := Aside0.mk H
      clear H
      go_upto_region 3 with (fail)
      go_cut [13] (fun v13 wc => ∃ (kq : Nat) (x13_1 : Bool), v13 = .bool x13_1 ∧ Aside0 (correctorlaw8_Lines.j1 kq l0 x3_1 x4_1 x13_1 = some r) ∧ Aside0 (kq ≤ k1) ∧ Aside0 (Kd.R Kd.string 9 wc w.heap.size (fun _ => True) u3 x3_1) ∧ Aside0 (Below w.heap.size w wc))
      case first =>
        have H := HC2.out
        clear HC2
        by_cases c3 : x4_1 < (l0.length : Int)
        · rw [if_pos c3] at H
          have c3b0 : decide (x4_1 < (l0.length : Int)) = true := decide_eq_true c3
          clear c3
          (first | rw [c3b0] | (simp only [i64_w, i32_w]; rw [c3b0]) | rw [c3b1] | skip)
          have H' := Aside0.mk H
          clear H
          go_wp2
          go_meet
          case rel => exact ⟨_, (decide (x4_1 < 20)), (by first | rfl | (simp; done) | (simp [*]; done)), H', ⟨by have := HK1.out; first | omega | exact Nat.le_refl _⟩, ⟨by (with_reducible repeat (first | apply Kd.R_alloc | apply Kd.R_drewN | apply Kd.R_drew)); exact HO_3.out⟩, ⟨by repeat (first | (with_reducible first | exact HB.out | apply below_alloc | apply pw_below_drewN | apply below_drew1) | exact HB.out)⟩⟩
        · rw [if_neg c3] at H
          have c3b0 : decide (x4_1 < (l0.length : Int)) = false := decide_eq_false c3
          clear c3
          (first | rw [c3b0] | (simp only [i64_w, i32_w]; rw [c3b0]) | rw [c3b1] | skip)
          have H' := Aside0.mk H
          clear H
          go_wp2
          go_meet
          case rel => exact ⟨_, (false), (by first | rfl | (simp; done) | (simp [*]; done)), H', ⟨by have := HK1.out; first | omega | exact Nat.le_refl _⟩, ⟨by (with_reducible repeat (first | apply Kd.R_alloc | apply Kd.R_drewN | apply Kd.R_drew)); exact HO_3.out⟩, ⟨by repeat (first | (with_reducible first | exact HB.out | apply below_alloc | apply pw_below_drewN | apply below_drew1) | exact HB.out)⟩⟩
      case rest =>
        clear HC2
        try clear c1
        try clear p2
        try clear c3
        try clear c3b0
        try clear c3b1
        obtain ⟨kq, x13_1, rfl, HA, HJ1, HO_3, HB⟩ := hcut
        cases kq with
        | zero => exact absurd HA.out (by simp [correctorlaw8_Lines.j1])
        | succ kj1 =>
          have H := HA.out
          clear HA
          simp only [correctorlaw8_Lines.j1] at H
          by_cases c4 : x13_1 = true
          · subst c4
            have H1 : (if 0 ≤ x4_1 then (if x4_1 < (l0.length : Int) then ((correctorlaw8_within.f (rd l0 x4_1) 7).bind fun t229 => (if 0 ≤ t229 then (if t229 ≤ 10 then ((some (([(⟨#[]⟩ : ByteArray), (⟨#[]⟩ : ByteArray), (⟨#[97]⟩ : ByteArray), (⟨#[116, 119, 111, 32, 119, 111, 114, 100, 115]⟩ : ByteArray), (⟨#[9]⟩ : ByteArray), (⟨#[45, 32, 98]⟩ : ByteArray), (⟨#[32, 120]⟩ : ByteArray), (⟨#[195, 169]⟩ : ByteArray), (⟨#[35, 32, 99]⟩ : ByteArray)] : List ByteArray) : List ByteArray)).bind fun y230 => ((correctorlaw8_within.f (wrap64 (Int.tdiv (rd l0 x4_1) 7)) 9).bind fun t234 => (if 0 ≤ t234 then (if t234 < (y230.length : Int) then (if ((⟨#[32, 32, 32, 32, 32, 32, 32, 32, 32, 32]⟩ : ByteArray).extract 0 (t229 : Int).toNat).size + (rdOf ByteArray.empty y230 t234).size ≤ 9223372036854775807 then ((some (([(⟨#[10]⟩ : ByteArray), (⟨#[13, 10]⟩ : ByteArray), (⟨#[10]⟩ : ByteArray), (⟨#[13]⟩ : ByteArray)] : List ByteArray) : List ByteArray)).bind fun y236 => ((correctorlaw8_within.f (wrap64 (Int.tdiv (rd l0 x4_1) 63)) 4).bind fun t240 => (if 0 ≤ t240 then (if t240 < (y236.length : Int) then (if (((⟨#[32, 32, 32, 32, 32, 32, 32, 32, 32, 32]⟩ : ByteArray).extract 0 (t229 : Int).toNat) ++ (rdOf ByteArray.empty y230 t234)).size + (rdOf ByteArray.empty y236 t240).size ≤ 9223372036854775807 then (if x3_1.length < 8796093022208 then (correctorlaw8_Lines.l0 kj1 l0 (x3_1 ++ [(((⟨#[32, 32, 32, 32, 32, 32, 32, 32, 32, 32]⟩ : ByteArray).extract 0 (t229 : Int).toNat) ++ (rdOf ByteArray.empty y230 t234)) ++ (rdOf ByteArray.empty y236 t240)]) (wrap64 (x4_1 + 1))) else (none)) else (none)) else (none)) else (none)))) else (none)) else (none)) else (none)))) else (none)) else (none))) else (none)) else (none)) = some r := by rw [if_pos rfl] at H; exact H
            clear H
            have H := H1
            clear H1
            by_cases c5 : 0 ≤ x4_1
            · rw [if_pos c5] at H
              have c5b0 : decide (0 ≤ x4_1) = true := decide_eq_true c5
              clear c5
              by_cases c6 : x4_1 < (l0.length : Int)
              · rw [if_pos c6] at H
                have c6b0 : decide (x4_1 < (l0.length : Int)) = true := decide_eq_true c6
                clear c6
                replace H := Option.bind_eq_some_iff.mp H
                obtain ⟨t229, A70, H⟩ := H
                replace H : (if 0 ≤ t229 then (if t229 ≤ 10 then ((some (([(⟨#[]⟩ : ByteArray), (⟨#[]⟩ : ByteArray), (⟨#[97]⟩ : ByteArray), (⟨#[116, 119, 111, 32, 119, 111, 114, 100, 115]⟩ : ByteArray), (⟨#[9]⟩ : ByteArray), (⟨#[45, 32, 98]⟩ : ByteArray), (⟨#[32, 120]⟩ : ByteArray), (⟨#[195, 169]⟩ : ByteArray), (⟨#[35, 32, 99]⟩ : ByteArray)] : List ByteArray) : List ByteArray)).bind fun y230 => ((correctorlaw8_within.f (wrap64 (Int.tdiv (rd l0 x4_1) 7)) 9).bind fun t234 => (if 0 ≤ t234 then (if t234 < (y230.length : Int) then (if ((⟨#[32, 32, 32, 32, 32, 32, 32, 32, 32, 32]⟩ : ByteArray).extract 0 (t229 : Int).toNat).size + (rdOf ByteArray.empty y230 t234).size ≤ 9223372036854775807 then ((some (([(⟨#[10]⟩ : ByteArray), (⟨#[13, 10]⟩ : ByteArray), (⟨#[10]⟩ : ByteArray), (⟨#[13]⟩ : ByteArray)] : List ByteArray) : List ByteArray)).bind fun y236 => ((correctorlaw8_within.f (wrap64 (Int.tdiv (rd l0 x4_1) 63)) 4).bind fun t240 => (if 0 ≤ t240 then (if t240 < (y236.length : Int) then (if (((⟨#[32, 32, 32, 32, 32, 32, 32, 32, 32, 32]⟩ : ByteArray).extract 0 (t229 : Int).toNat) ++ (rdOf ByteArray.empty y230 t234)).size + (rdOf ByteArray.empty y236 t240).size ≤ 9223372036854775807 then (if x3_1.length < 8796093022208 then (correctorlaw8_Lines.l0 kj1 l0 (x3_1 ++ [(((⟨#[32, 32, 32, 32, 32, 32, 32, 32, 32, 32]⟩ : ByteArray).extract 0 (t229 : Int).toNat) ++ (rdOf ByteArray.empty y230 t234)) ++ (rdOf ByteArray.empty y236 t240)]) (wrap64 (x4_1 + 1))) else (none)) else (none)) else (none)) else (none)))) else (none)) else (none)) else (none)))) else (none)) else (none)) = some r := H
                have A7 := Aside0.mk A70
                clear A70
                by_cases c8 : 0 ≤ t229
                · rw [if_pos c8] at H
                  have c8b0 := eq_true c8
                  have c8b1 : decide (0 ≤ t229) = true := decide_eq_true c8
                  clear c8
                  by_cases c9 : t229 ≤ 10
                  · rw [if_pos c9] at H
                    have c9b0 := eq_true c9
                    have c9b1 : decide (t229 ≤ 10) = true := decide_eq_true c9
                    clear c9
                    obtain ⟨y230, hy230⟩ : ∃ y_ : List ByteArray, y_ = (([(⟨#[]⟩ : ByteArray), (⟨#[]⟩ : ByteArray), (⟨#[97]⟩ : ByteArray), (⟨#[116, 119, 111, 32, 119, 111, 114, 100, 115]⟩ : ByteArray), (⟨#[9]⟩ : ByteArray), (⟨#[45, 32, 98]⟩ : ByteArray), (⟨#[32, 120]⟩ : ByteArray), (⟨#[195, 169]⟩ : ByteArray), (⟨#[35, 32, 99]⟩ : ByteArray)] : List ByteArray)) := ⟨_, rfl⟩
                    replace H : ((correctorlaw8_within.f (wrap64 (Int.tdiv (rd l0 x4_1) 7)) 9).bind fun t234 => (if 0 ≤ t234 then (if t234 < (y230.length : Int) then (if ((⟨#[32, 32, 32, 32, 32, 32, 32, 32, 32, 32]⟩ : ByteArray).extract 0 (t229 : Int).toNat).size + (rdOf ByteArray.empty y230 t234).size ≤ 9223372036854775807 then ((some (([(⟨#[10]⟩ : ByteArray), (⟨#[13, 10]⟩ : ByteArray), (⟨#[10]⟩ : ByteArray), (⟨#[13]⟩ : ByteArray)] : List ByteArray) : List ByteArray)).bind fun y236 => ((correctorlaw8_within.f (wrap64 (Int.tdiv (rd l0 x4_1) 63)) 4).bind fun t240 => (if 0 ≤ t240 then (if t240 < (y236.length : Int) then (if (((⟨#[32, 32, 32, 32, 32, 32, 32, 32, 32, 32]⟩ : ByteArray).extract 0 (t229 : Int).toNat) ++ (rdOf ByteArray.empty y230 t234)).size + (rdOf ByteArray.empty y236 t240).size ≤ 9223372036854775807 then (if x3_1.length < 8796093022208 then (correctorlaw8_Lines.l0 kj1 l0 (x3_1 ++ [(((⟨#[32, 32, 32, 32, 32, 32, 32, 32, 32, 32]⟩ : ByteArray).extract 0 (t229 : Int).toNat) ++ (rdOf ByteArray.empty y230 t234)) ++ (rdOf ByteArray.empty y236 t240)]) (wrap64 (x4_1 + 1))) else (none)) else (none)) else (none)) else (none)))) else (none)) else (none)) else (none))) = some r := by first | (rw [hy230]; with_reducible exact H) | (have H2_ := (Option.bind_some _ _).symm.trans H; rw [hy230]; with_reducible exact H2_) | (have H2_ := (Option.bind_some _ _).symm.trans H; with_reducible exact H2_) | with_reducible exact H | (rw [hy230]; exact H) | exact H
                    have Ny230 := Aside0.mk hy230
                    clear hy230
                    replace H := Option.bind_eq_some_iff.mp H
                    obtain ⟨t234, A100, H⟩ := H
                    replace H : (if 0 ≤ t234 then (if t234 < (y230.length : Int) then (if ((⟨#[32, 32, 32, 32, 32, 32, 32, 32, 32, 32]⟩ : ByteArray).extract 0 (t229 : Int).toNat).size + (rdOf ByteArray.empty y230 t234).size ≤ 9223372036854775807 then ((some (([(⟨#[10]⟩ : ByteArray), (⟨#[13, 10]⟩ : ByteArray), (⟨#[10]⟩ : ByteArray), (⟨#[13]⟩ : ByteArray)] : List ByteArray) : List ByteArray)).bind fun y236 => ((correctorlaw8_within.f (wrap64 (Int.tdiv (rd l0 x4_1) 63)) 4).bind fun t240 => (if 0 ≤ t240 then (if t240 < (y236.length : Int) then (if (((⟨#[32, 32, 32, 32, 32, 32, 32, 32, 32, 32]⟩ : ByteArray).extract 0 (t229 : Int).toNat) ++ (rdOf ByteArray.empty y230 t234)).size + (rdOf ByteArray.empty y236 t240).size ≤ 9223372036854775807 then (if x3_1.length < 8796093022208 then (correctorlaw8_Lines.l0 kj1 l0 (x3_1 ++ [(((⟨#[32, 32, 32, 32, 32, 32, 32, 32, 32, 32]⟩ : ByteArray).extract 0 (t229 : Int).toNat) ++ (rdOf ByteArray.empty y230 t234)) ++ (rdOf ByteArray.empty y236 t240)]) (wrap64 (x4_1 + 1))) else (none)) else (none)) else (none)) else (none)))) else (none)) else (none)) else (none)) = some r := H
                    have A10 := Aside0.mk A100
                    clear A100
                    by_cases c11 : 0 ≤ t234
                    · rw [if_pos c11] at H
                      have c11b0 : decide (0 ≤ t234) = true := decide_eq_true c11
                      clear c11
                      by_cases c12 : t234 < (y230.length : Int)
                      · rw [if_pos c12] at H
                        have c12b0 : decide (t234 < (y230.length : Int)) = true := decide_eq_true c12
                        clear c12
                        by_cases c13 : ((⟨#[32, 32, 32, 32, 32, 32, 32, 32, 32, 32]⟩ : ByteArray).extract 0 (t229 : Int).toNat).size + (rdOf ByteArray.empty y230 t234).size ≤ 9223372036854775807
                        · rw [if_pos c13] at H
                          (try (have c13v : (9223372036854775807 < t229.toNat + (rdOf ByteArray.empty y230 t234).size) = False := eq_false (by have h_ := c13; simp only [ByteArray.size_append, ByteArray.size_extract] at h_; have e_0 : t229 ≤ 10 := of_eq_true (by assumption); have z_0 : (⟨#[32, 32, 32, 32, 32, 32, 32, 32, 32, 32]⟩ : ByteArray).size = 10 := rfl; have y_0 : (⟨#[32, 32, 32, 32, 32, 32, 32, 32, 32, 32]⟩ : ByteArray).size = 10 := rfl; omega)))
                          have c13b0 := eq_true c13
                          have c13b1 : decide (((⟨#[32, 32, 32, 32, 32, 32, 32, 32, 32, 32]⟩ : ByteArray).extract 0 (t229 : Int).toNat).size + (rdOf ByteArray.empty y230 t234).size ≤ 9223372036854775807) = true := decide_eq_true c13
                          try have c13b2 : (9223372036854775807 < ((⟨#[32, 32, 32, 32, 32, 32, 32, 32, 32, 32]⟩ : ByteArray).extract 0 (t229 : Int).toNat).size + (rdOf ByteArray.empty y230 t234).size) = False := eq_false (Nat.not_lt.2 c13)
                          obtain ⟨y236, hy236⟩ : ∃ y_ : List ByteArray, y_ = (([(⟨#[10]⟩ : ByteArray), (⟨#[13, 10]⟩ : ByteArray), (⟨#[10]⟩ : ByteArray), (⟨#[13]⟩ : ByteArray)] : List ByteArray)) := ⟨_, rfl⟩
                          replace H : ((correctorlaw8_within.f (wrap64 (Int.tdiv (rd l0 x4_1) 63)) 4).bind fun t240 => (if 0 ≤ t240 then (if t240 < (y236.length : Int) then (if (((⟨#[32, 32, 32, 32, 32, 32, 32, 32, 32, 32]⟩ : ByteArray).extract 0 (t229 : Int).toNat) ++ (rdOf ByteArray.empty y230 t234)).size + (rdOf ByteArray.empty y236 t240).size ≤ 9223372036854775807 then (if x3_1.length < 8796093022208 then (correctorlaw8_Lines.l0 kj1 l0 (x3_1 ++ [(((⟨#[32, 32, 32, 32, 32, 32, 32, 32, 32, 32]⟩ : ByteArray).extract 0 (t229 : Int).toNat) ++ (rdOf ByteArray.empty y230 t234)) ++ (rdOf ByteArray.empty y236 t240)]) (wrap64 (x4_1 + 1))) else (none)) else (none)) else (none)) else (none))) = some r := by first | (rw [hy236]; with_reducible exact H) | (have H2_ := (Option.bind_some _ _).symm.trans H; rw [hy236]; with_reducible exact H2_) | (have H2_ := (Option.bind_some _ _).symm.trans H; with_reducible exact H2_) | with_reducible exact H | (rw [hy236]; exact H) | exact H
                          have Ny236 := Aside0.mk hy236
                          clear hy236
                          replace H := Option.bind_eq_some_iff.mp H
                          obtain ⟨t240, A140, H⟩ := H
                          replace H : (if 0 ≤ t240 then (if t240 < (y236.length : Int) then (if (((⟨#[32, 32, 32, 32, 32, 32, 32, 32, 32, 32]⟩ : ByteArray).extract 0 (t229 : Int).toNat) ++ (rdOf ByteArray.empty y230 t234)).size + (rdOf ByteArray.empty y236 t240).size ≤ 9223372036854775807 then (if x3_1.length < 8796093022208 then (correctorlaw8_Lines.l0 kj1 l0 (x3_1 ++ [(((⟨#[32, 32, 32, 32, 32, 32, 32, 32, 32, 32]⟩ : ByteArray).extract 0 (t229 : Int).toNat) ++ (rdOf ByteArray.empty y230 t234)) ++ (rdOf ByteArray.empty y236 t240)]) (wrap64 (x4_1 + 1))) else (none)) else (none)) else (none)) else (none)) = some r := H
                          have A14 := Aside0.mk A140
                          clear A140
                          by_cases c15 : 0 ≤ t240
                          · rw [if_pos c15] at H
                            have c15b0 : decide (0 ≤ t240) = true := decide_eq_true c15
                            clear c15
                            by_cases c16 : t240 < (y236.length : Int)
                            · rw [if_pos c16] at H
                              have c16b0 : decide (t240 < (y236.length : Int)) = true := decide_eq_true c16
                              clear c16
                              by_cases c17 : (((⟨#[32, 32, 32, 32, 32, 32, 32, 32, 32, 32]⟩ : ByteArray).extract 0 (t229 : Int).toNat) ++ (rdOf ByteArray.empty y230 t234)).size + (rdOf ByteArray.empty y236 t240).size ≤ 9223372036854775807
                              · rw [if_pos c17] at H
                                (try (have c17v : (9223372036854775807 < t229.toNat + (rdOf ByteArray.empty y230 t234).size + (rdOf ByteArray.empty y236 t240).size) = False := eq_false (by have h_ := c17; simp only [ByteArray.size_append, ByteArray.size_extract] at h_; have e_0 : t229 ≤ 10 := of_eq_true (by assumption); have z_0 : (⟨#[32, 32, 32, 32, 32, 32, 32, 32, 32, 32]⟩ : ByteArray).size = 10 := rfl; have y_0 : (⟨#[32, 32, 32, 32, 32, 32, 32, 32, 32, 32]⟩ : ByteArray).size = 10 := rfl; omega)))
                                have c17b0 := eq_true c17
                                have c17b1 : decide ((((⟨#[32, 32, 32, 32, 32, 32, 32, 32, 32, 32]⟩ : ByteArray).extract 0 (t229 : Int).toNat) ++ (rdOf ByteArray.empty y230 t234)).size + (rdOf ByteArray.empty y236 t240).size ≤ 9223372036854775807) = true := decide_eq_true c17
                                try have c17b2 : (9223372036854775807 < (((⟨#[32, 32, 32, 32, 32, 32, 32, 32, 32, 32]⟩ : ByteArray).extract 0 (t229 : Int).toNat) ++ (rdOf ByteArray.empty y230 t234)).size + (rdOf ByteArray.empty y236 t240).size) = False := eq_false (Nat.not_lt.2 c17)
                                by_cases c18 : x3_1.length < 8796093022208
                                · rw [if_pos c18] at H
                                  have LMc18 := Aside0.mk c18
                                  clear c18
                                  obtain ⟨y242, hy242⟩ : ∃ y_ : List ByteArray, y_ = (x3_1 ++ [(((⟨#[32, 32, 32, 32, 32, 32, 32, 32, 32, 32]⟩ : ByteArray).extract 0 (t229 : Int).toNat) ++ (rdOf ByteArray.empty y230 t234)) ++ (rdOf ByteArray.empty y236 t240)]) := ⟨_, rfl⟩
                                  replace H : (correctorlaw8_Lines.l0 kj1 l0 y242 (wrap64 (x4_1 + 1))) = some r := by first | (rw [hy242]; with_reducible exact H) | (have H2_ := (Option.bind_some _ _).symm.trans H; rw [hy242]; with_reducible exact H2_) | (have H2_ := (Option.bind_some _ _).symm.trans H; with_reducible exact H2_) | with_reducible exact H | (rw [hy242]; exact H) | exact H
                                  have Ny242 := Aside0.mk hy242
                                  clear hy242
                                  have H' := Aside0.mk H
                                  clear H
                                  try go_wp2
                                  have pi235 : (0 ≤ (t234 : Int)) = True := eq_true (of_decide_eq_true (by first | (with_reducible assumption) | assumption))
                                  have qi235 : (t234 < (y230.length : Int)) = True := eq_true (of_decide_eq_true (by first | (with_reducible assumption) | assumption))
                                  have n0_ := Aside0.mk (Kd.R_drew HO_3.out)
                                  have n1_ := Aside0.mk (below_drew1 HB.out)
                                  clear HO_3
                                  clear HB
                                  have HO_3 := n0_
                                  have HB := n1_
                                  clear n0_ n1_
                                  have p228 : 0 ≤ (x4_1 : Int) := of_decide_eq_true (by first | (with_reducible assumption) | assumption)
                                  have q228 : x4_1 < (l0.length : Int) := of_decide_eq_true (by first | (with_reducible assumption) | assumption)
                                  obtain ⟨ad228, e228, hx228_0⟩ := Kd.at_int HR0.out x4_1 p228 q228
                                  have hw228_0 := hx228_0
                                  cases e228
                                  replace hx228_0 := (HB.out.cell (World.block_lt_of_cell? w _ hx228_0)).trans hx228_0
                                  replace p228 := eq_true p228
                                  replace q228 := eq_true q228
                                  have p233 : 0 ≤ (x4_1 : Int) := of_decide_eq_true (by first | (with_reducible assumption) | assumption)
                                  have q233 : x4_1 < (l0.length : Int) := of_decide_eq_true (by first | (with_reducible assumption) | assumption)
                                  obtain ⟨ad233, e233, hx233_0⟩ := Kd.at_int HR0.out x4_1 p233 q233
                                  have hw233_0 := hx233_0
                                  obtain rfl : ad228 = ad233 := (by injection e233)
                                  replace hx233_0 := (HB.out.cell (World.block_lt_of_cell? w _ hx233_0)).trans hx233_0
                                  replace p233 := eq_true p233
                                  replace q233 := eq_true q233
                                  refine start_ (n := 17) (S := fun w' => w'.cell? (ad228.add (x4_1).toNat) = some (.int .i64 (rd l0 x4_1)) ∧ w'.cell? (ad228.add (x4_1).toNat) = some (.int .i64 (rd l0 x4_1))) (ds := []) #[false, false, false, false, false, false, false, false, false, false, false, false, false, false, false, false, false] (by kernel_rfl) rfl rfl ⟨((HB.out.cell (World.block_lt_of_cell? w _ hw228_0)).trans hw228_0), ((HB.out.cell (World.block_lt_of_cell? w _ hw233_0)).trans hw233_0)⟩ (fun hHeld => ?_); refine with_tabW correctorlaw8_Lines.tab5 correctorlaw8_Lines.bits5 (fun HT_ HW_ => ?_)
                                  generalize wc.drew = w19 at HO_3 HB hx228_0 hx233_0 hHeld ⊢
                                  refine pure_ (i := 0) (N := some 16) (v := ?_) (a' := ?_) #[true, false, false, false, false, false, false, false, false, false, false, false, false, false, false, false, false] rfl rfl (any_of HT_.out (by kernel_rfl)) (fun _ _ _ h => h) (Or.inl ⟨by rfl, ?_⟩) ?_ ?_
                                  rotate_left
                                  · intro w'
                                    go_simp
                                    with_reducible rfl
                                  rotate_left
                                  · simp only [Act.put, List.setIfInBounds_toArray, List.set_cons_zero, List.set_cons_succ, i64_w, i32_w]
                                    rfl
                                  refine pure_ (i := 1) (N := some 17) (v := ?_) (a' := ?_) #[true, true, false, false, false, false, false, false, false, false, false, false, false, false, false, false, false] rfl rfl (any_of HT_.out (by kernel_rfl)) (fun _ _ _ h => h) (Or.inl ⟨by rfl, ?_⟩) ?_ ?_
                                  rotate_left
                                  · intro w'
                                    go_simp
                                    with_reducible rfl
                                  rotate_left
                                  · simp only [Act.put, List.setIfInBounds_toArray, List.set_cons_zero, List.set_cons_succ, i64_w, i32_w]
                                    rfl
                                  refine pure_ (i := 2) (N := some 18) (v := ?_) (a' := ?_) #[true, true, true, false, false, false, false, false, false, false, false, false, false, false, false, false, false] rfl rfl (any_of HT_.out (by kernel_rfl)) (fun _ _ _ h => h) (Or.inl ⟨by rfl, ?_⟩) ?_ ?_
                                  rotate_left
                                  · intro w'
                                    go_simp
                                    with_reducible rfl
                                  rotate_left
                                  · simp only [Act.put, List.setIfInBounds_toArray, List.set_cons_zero, List.set_cons_succ, i64_w, i32_w]
                                    rfl
                                  refine pure_ (i := 7) (N := some 23) (v := ?_) (a' := ?_) #[true, true, true, false, false, false, false, true, false, false, false, false, false, false, false, false, false] rfl rfl (any_of HT_.out (by kernel_rfl)) (fun _ _ _ h => h) (Or.inl ⟨by rfl, ?_⟩) ?_ ?_
                                  rotate_left
                                  · intro w'
                                    go_simp
                                    with_reducible rfl
                                  rotate_left
                                  · simp only [Act.put, List.setIfInBounds_toArray, List.set_cons_zero, List.set_cons_succ, i64_w, i32_w]
                                    rfl
                                  refine pure_ (i := 8) (N := some 24) (v := ?_) (a' := ?_) #[true, true, true, false, false, false, false, true, true, false, false, false, false, false, false, false, false] rfl rfl (any_of HT_.out (by kernel_rfl)) (fun _ _ _ h => h) (Or.inl ⟨by rfl, ?_⟩) ?_ ?_
                                  rotate_left
                                  · intro w'
                                    go_simp
                                    with_reducible rfl
                                  rotate_left
                                  · simp only [Act.put, List.setIfInBounds_toArray, List.set_cons_zero, List.set_cons_succ, i64_w, i32_w]
                                    rfl
                                  refine pure_ (i := 9) (N := some 25) (v := ?_) (a' := ?_) #[true, true, true, false, false, false, false, true, true, true, false, false, false, false, false, false, false] rfl rfl (any_of HT_.out (by kernel_rfl)) (fun _ _ _ h => h) (Or.inl ⟨by rfl, ?_⟩) ?_ ?_
                                  rotate_left
                                  · intro w'
                                    go_simp
                                    with_reducible rfl
                                  rotate_left
                                  · simp only [Act.put, List.setIfInBounds_toArray, List.set_cons_zero, List.set_cons_succ, i64_w, i32_w]
                                    rfl
                                  refine take_ (i := 3) (N := some 19) (v := ?_) (a' := ?_) #[true, true, true, true, false, false, false, true, true, true, false, false, false, false, false, false, false] rfl rfl (take_ofW HT_.out HW_.out (by kernel_rfl)) (fun _ _ _ h => h) (Or.inl ⟨by rfl, ?_⟩) hHeld ?_ ?_
                                  rotate_left
                                  · rintro w' ⟨s0, s1⟩
                                    go_simp
                                    with_reducible rfl
                                  rotate_left
                                  · simp only [Act.put, List.setIfInBounds_toArray, List.set_cons_zero, List.set_cons_succ, i64_w, i32_w]
                                    rfl
                                  refine take_ (i := 10) (N := some 26) (v := ?_) (a' := ?_) #[true, true, true, true, false, false, false, true, true, true, true, false, false, false, false, false, false] rfl rfl (take_ofW HT_.out HW_.out (by kernel_rfl)) (fun _ _ _ h => h) (Or.inl ⟨by rfl, ?_⟩) hHeld ?_ ?_
                                  rotate_left
                                  · rintro w' ⟨s0, s1⟩
                                    go_simp
                                    with_reducible rfl
                                  rotate_left
                                  · simp only [Act.put, List.setIfInBounds_toArray, List.set_cons_zero, List.set_cons_succ, i64_w, i32_w]
                                    rfl
                                  refine pure_ (i := 11) (N := some 27) (v := ?_) (a' := ?_) #[true, true, true, true, false, false, false, true, true, true, true, true, false, false, false, false, false] rfl rfl (any_of HT_.out (by kernel_rfl)) (fun _ _ _ h => h) (Or.inl ⟨by rfl, ?_⟩) ?_ ?_
                                  rotate_left
                                  · intro w'
                                    go_simp
                                    with_reducible rfl
                                  rotate_left
                                  · simp only [Act.put, List.setIfInBounds_toArray, List.set_cons_zero, List.set_cons_succ, i64_w, i32_w]
                                    rfl
                                  refine join_ (σ := Value × Addr) 4 #[true, true, true, true, true, true, true, true, true, true, true, true, true, false, false, false, false] (fun s_ => [(20, .int .i64 t229), (22, s_.1), (28, .int .i64 t234), (21, .string ((⟨#[32, 32, 32, 32, 32, 32, 32, 32, 32, 32]⟩ : ByteArray).extract 0 (t229 : Int).toNat))]) (fun s_ w' => (w'.cell? (ad228.add (x4_1).toNat) = some (.int .i64 (rd l0 x4_1)) ∧ w'.cell? (ad228.add (x4_1).toNat) = some (.int .i64 (rd l0 x4_1))) ∧ (Kd.R Kd.string 9 w' w.heap.size (fun k_ => some k_ ≠ (u3 : Value).ownBlock) s_.1 y230) ∧ (Kd.R Kd.string 9 w' w.heap.size (fun k_ => some k_ ≠ (s_.1 : Value).ownBlock) u3 x3_1) ∧ (∃ c_, (s_.1 : Value) = .slice (some s_.2) y230.length c_) ∧ (Below w.heap.size w w')) ?_ ?_
                                  rotate_left
                                  · intro hCont
                                    refine two_ (i := 4) (j := 6) (Ni := some 20) (Nj := some 22) #[true, true, true, true, true, false, false, true, true, true, true, true, false, false, false, false, false] #[true, true, true, true, false, false, true, true, true, true, true, true, false, false, false, false, false] rfl rfl rfl rfl (two_of HT_.out (by kernel_rfl)) (by decide) (by decide) (fun K hK => ?_) (fun K hK => ?_)
                                    · skip
                                      refine goes_ Try.func10 (by kernel_rfl) rfl #[.int .i64 (rd l0 x4_1), .int .i64 7] (by rfl) rfl rfl (by (try simp only [List.map_toArray, List.map_cons, List.map_nil]); first | done | rfl | (simp only [List.length_drop, List.length_take]; rfl) | (simp only [ByteArray.size_extract, Nat.min_self]; done) | (simp only [ByteArray.size_extract, Nat.min_self]; rfl)) ?_
                                      with_reducible refine (correctorlaw8_within.calls (rd l0 x4_1) 7 t229 _ A7.out).mono ?_
                                      rintro e w' ⟨rfl, ⟨nd, rfl⟩⟩
                                      refine ⟨_, rfl, ?_⟩
                                      refine hK.out _ _ ⟨((HB.out.cell (World.block_lt_of_cell? w _ hw228_0)).trans hw228_0), ((HB.out.cell (World.block_lt_of_cell? w _ hw233_0)).trans hw233_0)⟩ (fun hHeld => ?_)
                                      clear hK K
                                      refine norm_ (a' := ?_) ?_ ?_
                                      rotate_left
                                      · show Act.put _ (some 20) _ = _
                                        simp only [Act.put, List.setIfInBounds_toArray, List.set_cons_zero, List.set_cons_succ, i64_w, i32_w]
                                        rfl
                                      refine pure_ (i := 5) (N := some 21) (v := ?_) (a' := ?_) #[true, true, true, true, true, true, false, true, true, true, true, true, false, false, false, false, false] rfl rfl (any_of HT_.out (by kernel_rfl)) (fun _ _ _ h => h) (Or.inl ⟨by rfl, ?_⟩) ?_ ?_
                                      rotate_left
                                      · intro w'
                                        go_simp
                                        with_reducible rfl
                                      rotate_left
                                      · simp only [Act.put, List.setIfInBounds_toArray, List.set_cons_zero, List.set_cons_succ, i64_w, i32_w]
                                        rfl
                                      refine two_ (i := 6) (j := 12) (Ni := some 22) (Nj := some 28) #[true, true, true, true, true, true, true, true, true, true, true, true, false, false, false, false, false] #[true, true, true, true, true, true, false, true, true, true, true, true, true, false, false, false, false] rfl rfl rfl rfl (two_of HT_.out (by kernel_rfl)) (by decide) (by decide) (fun K hK => ?_) (fun K hK => ?_)
                                      · skip
                                        refine Kd.R_lit_step Kd.string _ 9 ?hg (N := 22) ?hd (xs := ([(⟨#[]⟩ : ByteArray), (⟨#[]⟩ : ByteArray), (⟨#[97]⟩ : ByteArray), (⟨#[116, 119, 111, 32, 119, 111, 114, 100, 115]⟩ : ByteArray), (⟨#[9]⟩ : ByteArray), (⟨#[45, 32, 98]⟩ : ByteArray), (⟨#[32, 120]⟩ : ByteArray), (⟨#[195, 169]⟩ : ByteArray), (⟨#[35, 32, 99]⟩ : ByteArray)] : List ByteArray)) (inner := [.string (⟨#[]⟩ : ByteArray), .string (⟨#[]⟩ : ByteArray), .string (⟨#[97]⟩ : ByteArray), .string (⟨#[116, 119, 111, 32, 119, 111, 114, 100, 115]⟩ : ByteArray), .string (⟨#[9]⟩ : ByteArray), .string (⟨#[45, 32, 98]⟩ : ByteArray), .string (⟨#[32, 120]⟩ : ByteArray), .string (⟨#[195, 169]⟩ : ByteArray), .string (⟨#[35, 32, 99]⟩ : ByteArray)]) (ok := fun _ => True) (okp := fun _ => True) ?hr ?hp (fun _ hk => hk) trivial (Below.refl _ _) (Nat.le_refl _) (by simp) ?_; (case hd => rfl); (case hg => rfl); (case hr => first | (go_simp; done) | (go_simp; rfl)); (case hp => exact (Reps.one (show Kd.M Kd.string _ _ _ (⟨#[]⟩ : ByteArray) [.string (⟨#[]⟩ : ByteArray)] from rfl) (Reps.one (show Kd.M Kd.string _ _ _ (⟨#[]⟩ : ByteArray) [.string (⟨#[]⟩ : ByteArray)] from rfl) (Reps.one (show Kd.M Kd.string _ _ _ (⟨#[97]⟩ : ByteArray) [.string (⟨#[97]⟩ : ByteArray)] from rfl) (Reps.one (show Kd.M Kd.string _ _ _ (⟨#[116, 119, 111, 32, 119, 111, 114, 100, 115]⟩ : ByteArray) [.string (⟨#[116, 119, 111, 32, 119, 111, 114, 100, 115]⟩ : ByteArray)] from rfl) (Reps.one (show Kd.M Kd.string _ _ _ (⟨#[9]⟩ : ByteArray) [.string (⟨#[9]⟩ : ByteArray)] from rfl) (Reps.one (show Kd.M Kd.string _ _ _ (⟨#[45, 32, 98]⟩ : ByteArray) [.string (⟨#[45, 32, 98]⟩ : ByteArray)] from rfl) (Reps.one (show Kd.M Kd.string _ _ _ (⟨#[32, 120]⟩ : ByteArray) [.string (⟨#[32, 120]⟩ : ByteArray)] from rfl) (Reps.one (show Kd.M Kd.string _ _ _ (⟨#[195, 169]⟩ : ByteArray) [.string (⟨#[195, 169]⟩ : ByteArray)] from rfl) (Reps.one (show Kd.M Kd.string _ _ _ (⟨#[35, 32, 99]⟩ : ByteArray) [.string (⟨#[35, 32, 99]⟩ : ByteArray)] from rfl) (Reps.none _ _)))))))))))
                                        intro v231 w20 ho21 hb hg_ hnew_
                                        clear hg_ hnew_
                                        (first | rw [← Ny230.out] at ho21 | (simp only [Int.reduceToNat] at ho21; rw [← Ny230.out] at ho21))
                                        have n0_ := Aside0.mk (Kd.R_elder' (by (with_reducible repeat (first | apply Kd.R_alloc | apply Kd.R_drewN | apply Kd.R_drew)); exact HO_3.out) (Kd.R_base ho21) hb)
                                        have n1_ := Aside0.mk (Kd.R_lower (Kd.R_new' ho21 (Kd.R_lt (by (with_reducible repeat (first | apply Kd.R_alloc | apply Kd.R_drewN | apply Kd.R_drew)); exact HO_3.out))) (below_size (by repeat (first | (with_reducible first | exact HB.out | apply below_alloc | apply pw_below_drewN | apply below_drew1) | exact HB.out))))
                                        have n2_ := Aside0.mk (below_step (by repeat (first | (with_reducible first | exact HB.out | apply below_alloc | apply pw_below_drewN | apply below_drew1) | exact HB.out)) hb)
                                        clear HO_3
                                        clear HB
                                        have HO_3 := n0_
                                        have HO232 := n1_
                                        have HB := n2_
                                        clear n0_ n1_ n2_
                                        clear hb ho21
                                        obtain ⟨Ao22, co22, eo22⟩ := Kd.R_slice HO232.out
                                        subst eo22
                                        obtain ⟨ado22, fo22, _⟩ := Kd.at_string (Kd.R_reads' HO232.out).2.2 0 (by decide) (by rw [Ny230.out]; simp)
                                        cases fo22
                                        refine hK.out _ _ ⟨((HB.out.cell (World.block_lt_of_cell? w _ hw228_0)).trans hw228_0), ((HB.out.cell (World.block_lt_of_cell? w _ hw233_0)).trans hw233_0)⟩ (fun hHeld => ?_)
                                        clear hK K
                                        refine norm_ (a' := ?_) ?_ ?_
                                        rotate_left
                                        · show Act.put _ (some 22) _ = _
                                          simp only [Act.put, List.setIfInBounds_toArray, List.set_cons_zero, List.set_cons_succ, i64_w, i32_w]
                                          rfl
                                        refine one_ (i := 12) (N := some 28) #[true, true, true, true, true, true, true, true, true, true, true, true, true, false, false, false, false] rfl rfl (one_of HT_.out (by kernel_rfl)) (by decide) (fun K hK => ?_)
                                        refine goes_ Try.func10 (by kernel_rfl) rfl #[.int .i64 (wrap64 (Int.tdiv (rd l0 x4_1) 7)), .int .i64 9] (by rfl) rfl rfl (by (try simp only [List.map_toArray, List.map_cons, List.map_nil]); first | done | rfl | (simp only [List.length_drop, List.length_take]; rfl) | (simp only [ByteArray.size_extract, Nat.min_self]; done) | (simp only [ByteArray.size_extract, Nat.min_self]; rfl)) ?_
                                        with_reducible refine (correctorlaw8_within.calls (wrap64 (Int.tdiv (rd l0 x4_1) 7)) 9 t234 _ A10.out).mono ?_
                                        rintro e w' ⟨rfl, ⟨nd, rfl⟩⟩
                                        refine ⟨_, rfl, ?_⟩
                                        refine hK.out _ _ ⟨((HB.out.cell (World.block_lt_of_cell? w _ hw228_0)).trans hw228_0), ((HB.out.cell (World.block_lt_of_cell? w _ hw233_0)).trans hw233_0)⟩ (fun hHeld => ?_)
                                        clear hK K
                                        refine norm_ (a' := ?_) ?_ ?_
                                        rotate_left
                                        · show Act.put _ (some 28) _ = _
                                          simp only [Act.put, List.setIfInBounds_toArray, List.set_cons_zero, List.set_cons_succ, i64_w, i32_w]
                                          rfl
                                        exact norm_ (by simp only [putAll, Act.put, List.setIfInBounds_toArray, List.set_cons_zero, List.set_cons_succ]) (hCont (.slice (some ado22) y230.length co22, ado22) _ ⟨hHeld, (by (with_reducible repeat (first | apply Kd.R_alloc | apply Kd.R_drewN | apply Kd.R_drew)); exact Kd.R_mono HO232.out (fun _ hk => hk.2)), (by (with_reducible repeat (first | apply Kd.R_alloc | apply Kd.R_drewN | apply Kd.R_drew)); exact Kd.R_mono HO_3.out (fun _ hk => hk.2)), ⟨_, rfl⟩, (by repeat (first | (with_reducible first | exact HB.out | apply below_alloc | apply pw_below_drewN | apply below_drew1) | exact HB.out))⟩)
                                      · skip
                                        refine goes_ Try.func10 (by kernel_rfl) rfl #[.int .i64 (wrap64 (Int.tdiv (rd l0 x4_1) 7)), .int .i64 9] (by rfl) rfl rfl (by (try simp only [List.map_toArray, List.map_cons, List.map_nil]); first | done | rfl | (simp only [List.length_drop, List.length_take]; rfl) | (simp only [ByteArray.size_extract, Nat.min_self]; done) | (simp only [ByteArray.size_extract, Nat.min_self]; rfl)) ?_
                                        with_reducible refine (correctorlaw8_within.calls (wrap64 (Int.tdiv (rd l0 x4_1) 7)) 9 t234 _ A10.out).mono ?_
                                        rintro e w' ⟨rfl, ⟨nd, rfl⟩⟩
                                        refine ⟨_, rfl, ?_⟩
                                        refine hK.out _ _ ⟨((HB.out.cell (World.block_lt_of_cell? w _ hw228_0)).trans hw228_0), ((HB.out.cell (World.block_lt_of_cell? w _ hw233_0)).trans hw233_0)⟩ (fun hHeld => ?_)
                                        clear hK K
                                        refine norm_ (a' := ?_) ?_ ?_
                                        rotate_left
                                        · show Act.put _ (some 28) _ = _
                                          simp only [Act.put, List.setIfInBounds_toArray, List.set_cons_zero, List.set_cons_succ, i64_w, i32_w]
                                          rfl
                                        refine one_ (i := 6) (N := some 22) #[true, true, true, true, true, true, true, true, true, true, true, true, true, false, false, false, false] rfl rfl (one_of HT_.out (by kernel_rfl)) (by decide) (fun K hK => ?_)
                                        refine Kd.R_lit_step Kd.string _ 9 ?hg (N := 22) ?hd (xs := ([(⟨#[]⟩ : ByteArray), (⟨#[]⟩ : ByteArray), (⟨#[97]⟩ : ByteArray), (⟨#[116, 119, 111, 32, 119, 111, 114, 100, 115]⟩ : ByteArray), (⟨#[9]⟩ : ByteArray), (⟨#[45, 32, 98]⟩ : ByteArray), (⟨#[32, 120]⟩ : ByteArray), (⟨#[195, 169]⟩ : ByteArray), (⟨#[35, 32, 99]⟩ : ByteArray)] : List ByteArray)) (inner := [.string (⟨#[]⟩ : ByteArray), .string (⟨#[]⟩ : ByteArray), .string (⟨#[97]⟩ : ByteArray), .string (⟨#[116, 119, 111, 32, 119, 111, 114, 100, 115]⟩ : ByteArray), .string (⟨#[9]⟩ : ByteArray), .string (⟨#[45, 32, 98]⟩ : ByteArray), .string (⟨#[32, 120]⟩ : ByteArray), .string (⟨#[195, 169]⟩ : ByteArray), .string (⟨#[35, 32, 99]⟩ : ByteArray)]) (ok := fun _ => True) (okp := fun _ => True) ?hr ?hp (fun _ hk => hk) trivial (Below.refl _ _) (Nat.le_refl _) (by simp) ?_; (case hd => rfl); (case hg => rfl); (case hr => first | (go_simp; done) | (go_simp; rfl)); (case hp => exact (Reps.one (show Kd.M Kd.string _ _ _ (⟨#[]⟩ : ByteArray) [.string (⟨#[]⟩ : ByteArray)] from rfl) (Reps.one (show Kd.M Kd.string _ _ _ (⟨#[]⟩ : ByteArray) [.string (⟨#[]⟩ : ByteArray)] from rfl) (Reps.one (show Kd.M Kd.string _ _ _ (⟨#[97]⟩ : ByteArray) [.string (⟨#[97]⟩ : ByteArray)] from rfl) (Reps.one (show Kd.M Kd.string _ _ _ (⟨#[116, 119, 111, 32, 119, 111, 114, 100, 115]⟩ : ByteArray) [.string (⟨#[116, 119, 111, 32, 119, 111, 114, 100, 115]⟩ : ByteArray)] from rfl) (Reps.one (show Kd.M Kd.string _ _ _ (⟨#[9]⟩ : ByteArray) [.string (⟨#[9]⟩ : ByteArray)] from rfl) (Reps.one (show Kd.M Kd.string _ _ _ (⟨#[45, 32, 98]⟩ : ByteArray) [.string (⟨#[45, 32, 98]⟩ : ByteArray)] from rfl) (Reps.one (show Kd.M Kd.string _ _ _ (⟨#[32, 120]⟩ : ByteArray) [.string (⟨#[32, 120]⟩ : ByteArray)] from rfl) (Reps.one (show Kd.M Kd.string _ _ _ (⟨#[195, 169]⟩ : ByteArray) [.string (⟨#[195, 169]⟩ : ByteArray)] from rfl) (Reps.one (show Kd.M Kd.string _ _ _ (⟨#[35, 32, 99]⟩ : ByteArray) [.string (⟨#[35, 32, 99]⟩ : ByteArray)] from rfl) (Reps.none _ _)))))))))))
                                        intro v231 w20 ho21 hb hg_ hnew_
                                        clear hg_ hnew_
                                        (first | rw [← Ny230.out] at ho21 | (simp only [Int.reduceToNat] at ho21; rw [← Ny230.out] at ho21))
                                        have n0_ := Aside0.mk (Kd.R_elder' (by (with_reducible repeat (first | apply Kd.R_alloc | apply Kd.R_drewN | apply Kd.R_drew)); exact HO_3.out) (Kd.R_base ho21) hb)
                                        have n1_ := Aside0.mk (Kd.R_lower (Kd.R_new' ho21 (Kd.R_lt (by (with_reducible repeat (first | apply Kd.R_alloc | apply Kd.R_drewN | apply Kd.R_drew)); exact HO_3.out))) (below_size (by repeat (first | (with_reducible first | exact HB.out | apply below_alloc | apply pw_below_drewN | apply below_drew1) | exact HB.out))))
                                        have n2_ := Aside0.mk (below_step (by repeat (first | (with_reducible first | exact HB.out | apply below_alloc | apply pw_below_drewN | apply below_drew1) | exact HB.out)) hb)
                                        clear HO_3
                                        clear HB
                                        have HO_3 := n0_
                                        have HO232 := n1_
                                        have HB := n2_
                                        clear n0_ n1_ n2_
                                        clear hb ho21
                                        obtain ⟨Ao22, co22, eo22⟩ := Kd.R_slice HO232.out
                                        subst eo22
                                        obtain ⟨ado22, fo22, _⟩ := Kd.at_string (Kd.R_reads' HO232.out).2.2 0 (by decide) (by rw [Ny230.out]; simp)
                                        cases fo22
                                        refine hK.out _ _ ⟨((HB.out.cell (World.block_lt_of_cell? w _ hw228_0)).trans hw228_0), ((HB.out.cell (World.block_lt_of_cell? w _ hw233_0)).trans hw233_0)⟩ (fun hHeld => ?_)
                                        clear hK K
                                        refine norm_ (a' := ?_) ?_ ?_
                                        rotate_left
                                        · show Act.put _ (some 22) _ = _
                                          simp only [Act.put, List.setIfInBounds_toArray, List.set_cons_zero, List.set_cons_succ, i64_w, i32_w]
                                          rfl
                                        exact norm_ (by simp only [putAll, Act.put, List.setIfInBounds_toArray, List.set_cons_zero, List.set_cons_succ]) (hCont (.slice (some ado22) y230.length co22, ado22) _ ⟨hHeld, (by (with_reducible repeat (first | apply Kd.R_alloc | apply Kd.R_drewN | apply Kd.R_drew)); exact Kd.R_mono HO232.out (fun _ hk => hk.2)), (by (with_reducible repeat (first | apply Kd.R_alloc | apply Kd.R_drewN | apply Kd.R_drew)); exact Kd.R_mono HO_3.out (fun _ hk => hk.2)), ⟨_, rfl⟩, (by repeat (first | (with_reducible first | exact HB.out | apply below_alloc | apply pw_below_drewN | apply below_drew1) | exact HB.out))⟩)
                                    · skip
                                      refine Kd.R_lit_step Kd.string _ 9 ?hg (N := 22) ?hd (xs := ([(⟨#[]⟩ : ByteArray), (⟨#[]⟩ : ByteArray), (⟨#[97]⟩ : ByteArray), (⟨#[116, 119, 111, 32, 119, 111, 114, 100, 115]⟩ : ByteArray), (⟨#[9]⟩ : ByteArray), (⟨#[45, 32, 98]⟩ : ByteArray), (⟨#[32, 120]⟩ : ByteArray), (⟨#[195, 169]⟩ : ByteArray), (⟨#[35, 32, 99]⟩ : ByteArray)] : List ByteArray)) (inner := [.string (⟨#[]⟩ : ByteArray), .string (⟨#[]⟩ : ByteArray), .string (⟨#[97]⟩ : ByteArray), .string (⟨#[116, 119, 111, 32, 119, 111, 114, 100, 115]⟩ : ByteArray), .string (⟨#[9]⟩ : ByteArray), .string (⟨#[45, 32, 98]⟩ : ByteArray), .string (⟨#[32, 120]⟩ : ByteArray), .string (⟨#[195, 169]⟩ : ByteArray), .string (⟨#[35, 32, 99]⟩ : ByteArray)]) (ok := fun _ => True) (okp := fun _ => True) ?hr ?hp (fun _ hk => hk) trivial (Below.refl _ _) (Nat.le_refl _) (by simp) ?_; (case hd => rfl); (case hg => rfl); (case hr => first | (go_simp; done) | (go_simp; rfl)); (case hp => exact (Reps.one (show Kd.M Kd.string _ _ _ (⟨#[]⟩ : ByteArray) [.string (⟨#[]⟩ : ByteArray)] from rfl) (Reps.one (show Kd.M Kd.string _ _ _ (⟨#[]⟩ : ByteArray) [.string (⟨#[]⟩ : ByteArray)] from rfl) (Reps.one (show Kd.M Kd.string _ _ _ (⟨#[97]⟩ : ByteArray) [.string (⟨#[97]⟩ : ByteArray)] from rfl) (Reps.one (show Kd.M Kd.string _ _ _ (⟨#[116, 119, 111, 32, 119, 111, 114, 100, 115]⟩ : ByteArray) [.string (⟨#[116, 119, 111, 32, 119, 111, 114, 100, 115]⟩ : ByteArray)] from rfl) (Reps.one (show Kd.M Kd.string _ _ _ (⟨#[9]⟩ : ByteArray) [.string (⟨#[9]⟩ : ByteArray)] from rfl) (Reps.one (show Kd.M Kd.string _ _ _ (⟨#[45, 32, 98]⟩ : ByteArray) [.string (⟨#[45, 32, 98]⟩ : ByteArray)] from rfl) (Reps.one (show Kd.M Kd.string _ _ _ (⟨#[32, 120]⟩ : ByteArray) [.string (⟨#[32, 120]⟩ : ByteArray)] from rfl) (Reps.one (show Kd.M Kd.string _ _ _ (⟨#[195, 169]⟩ : ByteArray) [.string (⟨#[195, 169]⟩ : ByteArray)] from rfl) (Reps.one (show Kd.M Kd.string _ _ _ (⟨#[35, 32, 99]⟩ : ByteArray) [.string (⟨#[35, 32, 99]⟩ : ByteArray)] from rfl) (Reps.none _ _)))))))))))
                                      intro v231 w20 ho21 hb hg_ hnew_
                                      clear hg_ hnew_
                                      (first | rw [← Ny230.out] at ho21 | (simp only [Int.reduceToNat] at ho21; rw [← Ny230.out] at ho21))
                                      have n0_ := Aside0.mk (Kd.R_elder' (by (with_reducible repeat (first | apply Kd.R_alloc | apply Kd.R_drewN | apply Kd.R_drew)); exact HO_3.out) (Kd.R_base ho21) hb)
                                      have n1_ := Aside0.mk (Kd.R_lower (Kd.R_new' ho21 (Kd.R_lt (by (with_reducible repeat (first | apply Kd.R_alloc | apply Kd.R_drewN | apply Kd.R_drew)); exact HO_3.out))) (below_size (by repeat (first | (with_reducible first | exact HB.out | apply below_alloc | apply pw_below_drewN | apply below_drew1) | exact HB.out))))
                                      have n2_ := Aside0.mk (below_step (by repeat (first | (with_reducible first | exact HB.out | apply below_alloc | apply pw_below_drewN | apply below_drew1) | exact HB.out)) hb)
                                      clear HO_3
                                      clear HB
                                      have HO_3 := n0_
                                      have HO232 := n1_
                                      have HB := n2_
                                      clear n0_ n1_ n2_
                                      clear hb ho21
                                      obtain ⟨Ao22, co22, eo22⟩ := Kd.R_slice HO232.out
                                      subst eo22
                                      obtain ⟨ado22, fo22, _⟩ := Kd.at_string (Kd.R_reads' HO232.out).2.2 0 (by decide) (by rw [Ny230.out]; simp)
                                      cases fo22
                                      refine hK.out _ _ ⟨((HB.out.cell (World.block_lt_of_cell? w _ hw228_0)).trans hw228_0), ((HB.out.cell (World.block_lt_of_cell? w _ hw233_0)).trans hw233_0)⟩ (fun hHeld => ?_)
                                      clear hK K
                                      refine norm_ (a' := ?_) ?_ ?_
                                      rotate_left
                                      · show Act.put _ (some 22) _ = _
                                        simp only [Act.put, List.setIfInBounds_toArray, List.set_cons_zero, List.set_cons_succ, i64_w, i32_w]
                                        rfl
                                      refine one_ (i := 4) (N := some 20) #[true, true, true, true, true, false, true, true, true, true, true, true, false, false, false, false, false] rfl rfl (one_of HT_.out (by kernel_rfl)) (by decide) (fun K hK => ?_)
                                      refine goes_ Try.func10 (by kernel_rfl) rfl #[.int .i64 (rd l0 x4_1), .int .i64 7] (by rfl) rfl rfl (by (try simp only [List.map_toArray, List.map_cons, List.map_nil]); first | done | rfl | (simp only [List.length_drop, List.length_take]; rfl) | (simp only [ByteArray.size_extract, Nat.min_self]; done) | (simp only [ByteArray.size_extract, Nat.min_self]; rfl)) ?_
                                      with_reducible refine (correctorlaw8_within.calls (rd l0 x4_1) 7 t229 _ A7.out).mono ?_
                                      rintro e w' ⟨rfl, ⟨nd, rfl⟩⟩
                                      refine ⟨_, rfl, ?_⟩
                                      refine hK.out _ _ ⟨((HB.out.cell (World.block_lt_of_cell? w _ hw228_0)).trans hw228_0), ((HB.out.cell (World.block_lt_of_cell? w _ hw233_0)).trans hw233_0)⟩ (fun hHeld => ?_)
                                      clear hK K
                                      refine norm_ (a' := ?_) ?_ ?_
                                      rotate_left
                                      · show Act.put _ (some 20) _ = _
                                        simp only [Act.put, List.setIfInBounds_toArray, List.set_cons_zero, List.set_cons_succ, i64_w, i32_w]
                                        rfl
                                      refine pure_ (i := 5) (N := some 21) (v := ?_) (a' := ?_) #[true, true, true, true, true, true, true, true, true, true, true, true, false, false, false, false, false] rfl rfl (any_of HT_.out (by kernel_rfl)) (fun _ _ _ h => h) (Or.inl ⟨by rfl, ?_⟩) ?_ ?_
                                      rotate_left
                                      · intro w'
                                        go_simp
                                        with_reducible rfl
                                      rotate_left
                                      · simp only [Act.put, List.setIfInBounds_toArray, List.set_cons_zero, List.set_cons_succ, i64_w, i32_w]
                                        rfl
                                      refine one_ (i := 12) (N := some 28) #[true, true, true, true, true, true, true, true, true, true, true, true, true, false, false, false, false] rfl rfl (one_of HT_.out (by kernel_rfl)) (by decide) (fun K hK => ?_)
                                      refine goes_ Try.func10 (by kernel_rfl) rfl #[.int .i64 (wrap64 (Int.tdiv (rd l0 x4_1) 7)), .int .i64 9] (by rfl) rfl rfl (by (try simp only [List.map_toArray, List.map_cons, List.map_nil]); first | done | rfl | (simp only [List.length_drop, List.length_take]; rfl) | (simp only [ByteArray.size_extract, Nat.min_self]; done) | (simp only [ByteArray.size_extract, Nat.min_self]; rfl)) ?_
                                      with_reducible refine (correctorlaw8_within.calls (wrap64 (Int.tdiv (rd l0 x4_1) 7)) 9 t234 _ A10.out).mono ?_
                                      rintro e w' ⟨rfl, ⟨nd, rfl⟩⟩
                                      refine ⟨_, rfl, ?_⟩
                                      refine hK.out _ _ ⟨((HB.out.cell (World.block_lt_of_cell? w _ hw228_0)).trans hw228_0), ((HB.out.cell (World.block_lt_of_cell? w _ hw233_0)).trans hw233_0)⟩ (fun hHeld => ?_)
                                      clear hK K
                                      refine norm_ (a' := ?_) ?_ ?_
                                      rotate_left
                                      · show Act.put _ (some 28) _ = _
                                        simp only [Act.put, List.setIfInBounds_toArray, List.set_cons_zero, List.set_cons_succ, i64_w, i32_w]
                                        rfl
                                      exact norm_ (by simp only [putAll, Act.put, List.setIfInBounds_toArray, List.set_cons_zero, List.set_cons_succ]) (hCont (.slice (some ado22) y230.length co22, ado22) _ ⟨hHeld, (by (with_reducible repeat (first | apply Kd.R_alloc | apply Kd.R_drewN | apply Kd.R_drew)); exact Kd.R_mono HO232.out (fun _ hk => hk.2)), (by (with_reducible repeat (first | apply Kd.R_alloc | apply Kd.R_drewN | apply Kd.R_drew)); exact Kd.R_mono HO_3.out (fun _ hk => hk.2)), ⟨_, rfl⟩, (by repeat (first | (with_reducible first | exact HB.out | apply below_alloc | apply pw_below_drewN | apply below_drew1) | exact HB.out))⟩)
                                  rintro ⟨v231, adz_v231⟩ w23 ⟨hS_, h0_, h1_, h2_, h3_⟩
                                  have n0_ : Aside0 (Kd.R Kd.string 9 w23 w.heap.size (fun k_ => some k_ ≠ (u3 : Value).ownBlock) v231 y230) := ⟨h0_⟩
                                  have n1_ : Aside0 (Kd.R Kd.string 9 w23 w.heap.size (fun k_ => some k_ ≠ (v231 : Value).ownBlock) u3 x3_1) := ⟨h1_⟩
                                  have n2_ : Aside0 (∃ c_, (v231 : Value) = .slice (some adz_v231) y230.length c_) := ⟨h2_⟩
                                  have n3_ : Aside0 (Below w.heap.size w w23) := ⟨h3_⟩
                                  clear HO_3
                                  clear HB
                                  clear h0_ h1_ h2_ h3_
                                  have HO232 := n0_
                                  have HO_3 := n1_
                                  have HA_HO232 := n2_
                                  have HB := n3_
                                  clear n0_ n1_ n2_ n3_
                                  have hHeld : w23.cell? (ad228.add (x4_1).toNat) = some (.int .i64 (rd l0 x4_1)) ∧ w23.cell? (ad228.add (x4_1).toNat) = some (.int .i64 (rd l0 x4_1)) := hS_
                                  obtain ⟨co24, eo24⟩ := HA_HO232.out
                                  clear HA_HO232
                                  subst eo24
                                  refine norm_ (a' := ?_) ?_ ?_
                                  rotate_left
                                  · simp only [putAll, Act.put, List.setIfInBounds_toArray, List.set_cons_zero, List.set_cons_succ]
                                    rfl
                                  refine pure_ (i := 13) (N := some 29) (v := ?_) (a' := ?_) #[true, true, true, true, true, true, true, true, true, true, true, true, true, true, false, false, false] rfl rfl (any_of HT_.out (by kernel_rfl)) (fun _ _ _ h => h) (Or.inl ⟨by rfl, ?_⟩) ?_ ?_
                                  rotate_left
                                  · intro w'
                                    go_simp
                                    with_reducible rfl
                                  rotate_left
                                  · simp only [Act.put, List.setIfInBounds_toArray, List.set_cons_zero, List.set_cons_succ, i64_w, i32_w]
                                    rfl
                                  refine one_ (i := 14) (N := some 30) #[true, true, true, true, true, true, true, true, true, true, true, true, true, true, true, false, false] rfl rfl (one_of HT_.out (by kernel_rfl)) (by decide) (fun K hK => ?_)
                                  (have p235 : 0 ≤ (t234 : Int) := of_decide_eq_true (by first | (with_reducible assumption) | assumption); have q235 : t234 < (y230.length : Int) := of_decide_eq_true (by first | (with_reducible assumption) | assumption); obtain ⟨ad235, e235, hx235_0⟩ := Kd.at_string (Kd.R_reads' HO232.out).2.2 t234 p235 q235; obtain rfl : adz_v231 = ad235 := (by injection e235))
                                  refine value_ (w1 := ?_) (v := ?_) (by rfl) rfl ?_ ?_
                                  rotate_left 2
                                  · go_simp
                                    constructor
                                    · rfl
                                    · rfl
                                  clear hx235_0
                                  refine hK.out _ _ ⟨((HB.out.cell (World.block_lt_of_cell? w _ hw228_0)).trans hw228_0), ((HB.out.cell (World.block_lt_of_cell? w _ hw233_0)).trans hw233_0)⟩ (fun hHeld => ?_)
                                  clear hK K
                                  refine norm_ (a' := ?_) ?_ ?_
                                  rotate_left
                                  · show Act.put _ (some 30) _ = _
                                    simp only [Act.put, List.setIfInBounds_toArray, List.set_cons_zero, List.set_cons_succ, i64_w, i32_w]
                                    rfl
                                  refine pure_ (i := 15) (N := some 31) (v := ?_) (a' := ?_) #[true, true, true, true, true, true, true, true, true, true, true, true, true, true, true, true, false] rfl rfl (any_of HT_.out (by kernel_rfl)) (fun _ _ _ h => h) (Or.inl ⟨by rfl, ?_⟩) ?_ ?_
                                  rotate_left
                                  · intro w'
                                    go_simp
                                    with_reducible rfl
                                  rotate_left
                                  · simp only [Act.put, List.setIfInBounds_toArray, List.set_cons_zero, List.set_cons_succ, i64_w, i32_w]
                                    rfl
                                  refine pure_ (i := 16) (N := some 5) (v := ?_) (a' := ?_) #[true, true, true, true, true, true, true, true, true, true, true, true, true, true, true, true, true] rfl rfl (any_of HT_.out (by kernel_rfl)) (fun _ _ _ h => h) (Or.inl ⟨by rfl, ?_⟩) ?_ ?_
                                  rotate_left
                                  · intro w'
                                    go_simp
                                    with_reducible rfl
                                  rotate_left
                                  · simp only [Act.put, List.setIfInBounds_toArray, List.set_cons_zero, List.set_cons_succ, i64_w, i32_w]
                                    rfl
                                  refine done_ (done_of HT_.out (by kernel_rfl)) ?_
                                  try go_wp2_with (first | ((with_reducible refine gate_dst (N := 34) rfl ?_); refine Kd.R_lit Kd.string _ 9 ?hg (N := 34) ?hd (xs := ([(⟨#[10]⟩ : ByteArray), (⟨#[13, 10]⟩ : ByteArray), (⟨#[10]⟩ : ByteArray), (⟨#[13]⟩ : ByteArray)] : List ByteArray)) (inner := [.string (⟨#[10]⟩ : ByteArray), .string (⟨#[13, 10]⟩ : ByteArray), .string (⟨#[10]⟩ : ByteArray), .string (⟨#[13]⟩ : ByteArray)]) (ok := fun _ => True) (okp := fun _ => True) ?hr ?hp (fun _ hk => hk) trivial (Below.refl _ _) (Nat.le_refl _) (by simp) ?_; (case hd => rfl); (case hg => rfl); (case hr => first | (go_simp; done) | (go_simp; rfl)); (case hp => exact (Reps.one (show Kd.M Kd.string _ _ _ (⟨#[10]⟩ : ByteArray) [.string (⟨#[10]⟩ : ByteArray)] from rfl) (Reps.one (show Kd.M Kd.string _ _ _ (⟨#[13, 10]⟩ : ByteArray) [.string (⟨#[13, 10]⟩ : ByteArray)] from rfl) (Reps.one (show Kd.M Kd.string _ _ _ (⟨#[10]⟩ : ByteArray) [.string (⟨#[10]⟩ : ByteArray)] from rfl) (Reps.one (show Kd.M Kd.string _ _ _ (⟨#[13]⟩ : ByteArray) [.string (⟨#[13]⟩ : ByteArray)] from rfl) (Reps.none _ _)))))); intro v237 w25 ho26 hb hg_ hnew_; clear hg_ hnew_; (first | rw [← Ny236.out] at ho26 | (simp only [Int.reduceToNat] at ho26; rw [← Ny236.out] at ho26)); have n0_ := Aside0.mk (Kd.R_elder' (by (with_reducible repeat (first | apply Kd.R_alloc | apply Kd.R_drewN | apply Kd.R_drew)); exact HO_3.out) (Kd.R_base ho26) hb); have n1_ := Aside0.mk (Kd.R_elder' (by (with_reducible repeat (first | apply Kd.R_alloc | apply Kd.R_drewN | apply Kd.R_drew)); exact HO232.out) (Kd.R_base ho26) hb); have n2_ := Aside0.mk (Kd.R_lower (Kd.R_new' (Kd.R_new' ho26 (Kd.R_lt (by (with_reducible repeat (first | apply Kd.R_alloc | apply Kd.R_drewN | apply Kd.R_drew)); exact HO_3.out))) (Kd.R_lt (by (with_reducible repeat (first | apply Kd.R_alloc | apply Kd.R_drewN | apply Kd.R_drew)); exact HO232.out))) (below_size (by repeat (first | (with_reducible first | exact HB.out | apply below_alloc | apply pw_below_drewN | apply below_drew1) | exact HB.out)))); have n3_ := Aside0.mk (below_step (by repeat (first | (with_reducible first | exact HB.out | apply below_alloc | apply pw_below_drewN | apply below_drew1) | exact HB.out)) hb); clear HO_3; clear HO232; clear HB; have HO_3 := n0_; have HO232 := n1_; have HO238 := n2_; have HB := n3_; clear n0_ n1_ n2_ n3_; clear hb ho26; have p239 : 0 ≤ (x4_1 : Int) := of_decide_eq_true (by first | (with_reducible assumption) | assumption); have q239 : x4_1 < (l0.length : Int) := of_decide_eq_true (by first | (with_reducible assumption) | assumption); obtain ⟨ad239, e239, hx239_0⟩ := Kd.at_int HR0.out x4_1 p239 q239; obtain rfl : ad228 = ad239 := (by injection e239); replace hx239_0 := (HB.out.cell (World.block_lt_of_cell? w _ hx239_0)).trans hx239_0; replace p239 := eq_true p239; replace q239 := eq_true q239) | ((with_reducible refine gate_callee (f := 10) rfl ?_); refine goesL_ (some 40) rfl rfl Try.func10 (by kernel_rfl) rfl #[.int .i64 (wrap64 (Int.tdiv (rd l0 x4_1) 63)), .int .i64 4] rfl (by (try simp only [List.map_toArray, List.map_cons, List.map_nil]); first | done | rfl | (simp only [List.length_drop, List.length_take]; rfl) | (simp only [ByteArray.size_extract, Nat.min_self]; done) | (simp only [ByteArray.size_extract, Nat.min_self]; rfl)) ?_; (with_reducible refine (correctorlaw8_within.calls (wrap64 (Int.tdiv (rd l0 x4_1) 63)) 4 t240 _ A14.out).mono ?_); rintro e w' ⟨rfl, ⟨nd, rfl⟩⟩; refine ⟨_, rfl, ?_⟩; obtain ⟨Ao27, co27, eo27⟩ := Kd.R_slice HO238.out; subst eo27; have p241 : 0 ≤ (t240 : Int) := of_decide_eq_true (by first | (with_reducible assumption) | assumption); have q241 : t240 < (y236.length : Int) := of_decide_eq_true (by first | (with_reducible assumption) | assumption); obtain ⟨ad241, e241, hx241_0⟩ := Kd.at_string (Kd.R_reads' HO238.out).2.2 t240 p241 q241; cases e241; replace p241 := eq_true p241; replace q241 := eq_true q241) | ((with_reducible refine gate_builtin (b := .append) (xs := #[.tmp 32, .tmp 44]) rfl ?_); at_builtin; refine Kd.R_append Kd.string (w0 := w) w.heap.size rfl (.tmp 32) (.tmp 44) 22 9 (.string ⟨#[]⟩) 16 rfl Try.underlying22 info9 rfl (by decide) (by omega) u3 x3_1 ((((⟨#[32, 32, 32, 32, 32, 32, 32, 32, 32, 32]⟩ : ByteArray).extract 0 (t229 : Int).toNat) ++ (rdOf ByteArray.empty y230 t234)) ++ (rdOf ByteArray.empty y236 t240)) [.string ((((⟨#[32, 32, 32, 32, 32, 32, 32, 32, 32, 32]⟩ : ByteArray).extract 0 (t229 : Int).toNat) ++ (rdOf ByteArray.empty y230 t234)) ++ (rdOf ByteArray.empty y236 t240))] (fun k_ => some k_ ≠ (.slice (some adz_v231) y230.length co24 : Value).ownBlock ∧ some k_ ≠ (.slice (some ad241) y236.length co27 : Value).ownBlock) (fun _ => False) rfl rfl ?aP (fun _ hk => hk.elim) ?aF ?aO ?aB ?aS ?aL ?_; (case aP => exact rfl); (case aB => exact (by repeat (first | (with_reducible first | exact HB.out | apply below_alloc | apply pw_below_drewN | apply below_drew1) | exact HB.out))); (case aF => exact (fun k_ hk => ⟨Kd.fresh' (Kd.R_lt (by (with_reducible repeat (first | apply Kd.R_alloc | apply Kd.R_drewN | apply Kd.R_drew)); exact HO232.out)) k_ hk, Kd.fresh' (Kd.R_lt (by (with_reducible repeat (first | apply Kd.R_alloc | apply Kd.R_drewN | apply Kd.R_drew)); exact HO238.out)) k_ hk⟩)); (case aO => exact (by (with_reducible repeat (first | apply Kd.R_alloc | apply Kd.R_drewN | apply Kd.R_drew)); exact HO_3.out)); (case aS => exact (below_size (by repeat (first | (with_reducible first | exact HB.out | apply below_alloc | apply pw_below_drewN | apply below_drew1) | exact HB.out)))); (case aL => have := LMc18.out; omega); intro v243 w28 ho hb hg hat; rw [← Ny242.out] at ho; have n0_ := Aside0.mk (Kd.R_after (ok := (fun k_ => some k_ ≠ (.slice (some ad241) y236.length co27 : Value).ownBlock)) (by (with_reducible repeat (first | apply Kd.R_alloc | apply Kd.R_drewN | apply Kd.R_drew)); exact Kd.R_mono HO232.out (fun _ hk => ⟨hk.2, hk.1⟩)) hg hat); have n1_ := Aside0.mk (Kd.R_after (ok := (fun k_ => some k_ ≠ (.slice (some adz_v231) y230.length co24 : Value).ownBlock)) (by (with_reducible repeat (first | apply Kd.R_alloc | apply Kd.R_drewN | apply Kd.R_drew)); exact Kd.R_mono HO238.out (fun _ hk => ⟨hk.2, hk.1.2⟩)) hg hat); have n2_ := Aside0.mk (hb); have n3_ := Aside0.mk (ho); clear HO232; clear HO238; clear HB; clear HO_3; have HO232 := n0_; have HO238 := n1_; have HB := n2_; have HO244 := n3_; clear n0_ n1_ n2_ n3_; clear ho hb hg hat))
                                  go_roundg kj1
                                  case measure => have := HK1.out; have := HJ1.out; omega
                                  case rel => exact ⟨(y242), (wrap64 (x4_1 + 1)), (by first | rfl | (simp; done) | (simp [*]; done)), H', ⟨by have := HK1.out; have := HJ1.out; omega⟩, ⟨by first | exact Kd.R_mono HO244.out (fun _ hk => trivial) | ((with_reducible repeat (first | apply Kd.R_alloc | apply Kd.R_drewN | apply Kd.R_drew)); exact Kd.R_mono HO244.out (fun _ hk => trivial))⟩, ⟨by repeat (first | (with_reducible first | exact HB.out | apply below_alloc | apply pw_below_drewN | apply below_drew1) | exact HB.out)⟩⟩
                                · rw [if_neg c18] at H
                                  exact absurd H (by simp)
                              · rw [if_neg c17] at H
                                exact absurd H (by simp)
                            · rw [if_neg c16] at H
                              exact absurd H (by simp)
                          · rw [if_neg c15] at H
                            exact absurd H (by simp)
                        · rw [if_neg c13] at H
                          exact absurd H (by simp)
                      · rw [if_neg c12] at H
                        exact absurd H (by simp)
                    · rw [if_neg c11] at H
                      exact absurd H (by simp)
                  · rw [if_neg c9] at H
                    exact absurd H (by simp)
                · rw [if_neg c8] at H
                  exact absurd H (by simp)
              · rw [if_neg c6] at H
                exact absurd H (by simp)
            · rw [if_neg c5] at H
              exact absurd H (by simp)
          · replace c4 := Bool.eq_false_iff.mpr c4
            subst c4
            have H1 : (some x3_1) = some r := by rw [if_neg (show ¬ (false = true) by decide)] at H; exact H
            clear H
            have H := H1
            clear H1
            obtain rfl := Option.some.inj H
            go_wp2
            go_ret
            exact ⟨_, by first | rfl | (simp [errW_none, errW_some] <;> rfl) | (simp [*, errW_none, errW_some] <;> rfl), by (with_reducible repeat (first | apply Kd.R_alloc | apply Kd.R_drewN | apply Kd.R_drew)); exact HO_3.out, by repeat (first | (with_reducible first | exact HB.out | apply below_alloc | apply pw_below_drewN | apply below_drew1) | exact HB.out)⟩

end Go.Proofs.Ytpinegfbcbfnoaa.Q
