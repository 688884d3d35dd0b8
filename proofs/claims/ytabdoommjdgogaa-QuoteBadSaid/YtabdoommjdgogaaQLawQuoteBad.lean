/- Proved here, in the forms of the print's contracts: what each Go function answers, and the rows of the laws over it; by a program and by hand. -/
import Derived.Test.YtabdoommjdgogaaQ0
import Derived.Test.YtabdoommjdgogaaQcorrectorlaw7
import Derived.Test.YtabdoommjdgogaaQquote
namespace Go.Proofs.Ytabdoommjdgogaa.Q
open Go.RowKit Go.Proofs.YtabdoommjdgogaaW.PrintWords Go.Proofs.YtabdoommjdgogaaW.PrintLast Go.Proofs.YtabdoommjdgogaaW.PrintMore
attribute [local go_sem] max2_int min2_int max_two min_two max_three min_three max_four min_four   -- for this text's walks alone
set_option linter.unusedVariables false
set_option linter.unusedSimpArgs false

/-! ### correctorlaw7_QuoteBad: function 5 -/
mutual
def correctorlaw7_QuoteBad.l0 : Nat → List Bool → ByteArray → ByteArray → Int → Int → Option (Bool)
  | 0, _, _, _, _, _ => none
  | k + 1, x0, x3, x4, x5, x6 => if x6 < (x0.length : Int) then (correctorlaw7_QuoteBad.j1 k x0 x3 x4 x5 x6 (decide (x6 < 20))) else (correctorlaw7_QuoteBad.j1 k x0 x3 x4 x5 x6 false)
def correctorlaw7_QuoteBad.j1 : Nat → List Bool → ByteArray → ByteArray → Int → Int → Bool → Option (Bool)
  | 0, _, _, _, _, _, _ => none
  | k + 1, x0, x3, x4, x5, x6, x20 => if x20 = true then (if 0 ≤ x6 then (if x6 < (x0.length : Int) then (if rdOf false x0 x6 = true then (if x3.size + 2 ≤ 9223372036854775807 then (if x4.size + 2 ≤ 9223372036854775807 then (correctorlaw7_QuoteBad.l0 k x0 (x3 ++ (⟨#[92, 113]⟩ : ByteArray)) (x4 ++ (⟨#[92, 113]⟩ : ByteArray)) (wrap64 (x5 + 1)) (wrap64 (x6 + 1))) else (none)) else (none)) else (if x3.size + 2 ≤ 9223372036854775807 then (if x4.size + 1 ≤ 9223372036854775807 then (correctorlaw7_QuoteBad.l0 k x0 (x3 ++ (⟨#[92, 110]⟩ : ByteArray)) (x4 ++ (⟨#[10]⟩ : ByteArray)) x5 (wrap64 (x6 + 1))) else (none)) else (none))) else (none)) else (none)) else (if x3.size + 1 ≤ 9223372036854775807 then ((quote_Text.f k 17 (x3 ++ (⟨#[34]⟩ : ByteArray))).bind fun bt230 => (if bt230.1.toList = x4.toList then (if (bt230.2.1.length : Int) = x5 then (correctorlaw7_QuoteBad.j2 k x3 bt230.2.1 (!bt230.2.2)) else (correctorlaw7_QuoteBad.j2 k x3 bt230.2.1 true)) else (correctorlaw7_QuoteBad.j2 k x3 bt230.2.1 true))) else (none))
def correctorlaw7_QuoteBad.j2 : Nat → ByteArray → List Int → Bool → Option (Bool)
  | 0, _, _, _ => none
  | k + 1, x3, x8, x56 => if x56 = true then (some false) else (correctorlaw7_QuoteBad.l1 k x3 x8 0)
def correctorlaw7_QuoteBad.l1 : Nat → ByteArray → List Int → Int → Option (Bool)
  | 0, _, _, _ => none
  | k + 1, x3, x8, x10 => if x10 < (x8.length : Int) then (if 0 ≤ x10 then (if (rd x8 x10) < 1 then (some false) else (if (rd x8 x10) ≥ (x3.size : Int) then (some false) else (if 0 ≤ (rd x8 x10) then (if (rd x8 x10) < (x3.size : Int) then (if (bt x3 (rd x8 x10)) = 92 then (if x10 > 0 then (if 0 ≤ (wrap64 (x10 - 1)) then (if (wrap64 (x10 - 1)) < (x8.length : Int) then (if (rd x8 x10) ≤ (rd x8 (wrap64 (x10 - 1))) then (some false) else (correctorlaw7_QuoteBad.l1 k x3 x8 (wrap64 (x10 + 1)))) else (none)) else (none)) else (correctorlaw7_QuoteBad.l1 k x3 x8 (wrap64 (x10 + 1)))) else (some false)) else (none)) else (none)))) else (none)) else (some true)
end
def correctorlaw7_QuoteBad.f (k : Nat) (l0 : List Bool) : Option (Bool) := (correctorlaw7_known.f k).bind fun t228 => (if t228 = true then (correctorlaw7_QuoteBad.l0 k l0 (⟨#[34]⟩ : ByteArray) (⟨#[]⟩ : ByteArray) 0 0) else (some false))
theorem correctorlaw7_QuoteBad.mono_l : ∀ k, (∀ y0 y1 y2 y3 y4, LeO (correctorlaw7_QuoteBad.l0 k y0 y1 y2 y3 y4) (correctorlaw7_QuoteBad.l0 (k + 1) y0 y1 y2 y3 y4)) ∧ (∀ y0 y1 y2 y3 y4 y5, LeO (correctorlaw7_QuoteBad.j1 k y0 y1 y2 y3 y4 y5) (correctorlaw7_QuoteBad.j1 (k + 1) y0 y1 y2 y3 y4 y5)) ∧ (∀ y0 y1 y2, LeO (correctorlaw7_QuoteBad.j2 k y0 y1 y2) (correctorlaw7_QuoteBad.j2 (k + 1) y0 y1 y2)) ∧ (∀ y0 y1 y2, LeO (correctorlaw7_QuoteBad.l1 k y0 y1 y2) (correctorlaw7_QuoteBad.l1 (k + 1) y0 y1 y2))
  | 0 => ⟨fun _ _ _ _ _ r h => by simp [correctorlaw7_QuoteBad.l0] at h, fun _ _ _ _ _ _ r h => by simp [correctorlaw7_QuoteBad.j1] at h, fun _ _ _ r h => by simp [correctorlaw7_QuoteBad.j2] at h, fun _ _ _ r h => by simp [correctorlaw7_QuoteBad.l1] at h⟩
  | k + 1 => by
    obtain ⟨ih0, ih1, ih2, ih3⟩ := correctorlaw7_QuoteBad.mono_l k
    refine ⟨?_, ?_, ?_, ?_⟩
    · intro y0 y1 y2 y3 y4
      unfold correctorlaw7_QuoteBad.l0
      repeat' first
      | (with_reducible exact ih0 _ _ _ _ _)
      | (with_reducible exact ih1 _ _ _ _ _ _)
      | (with_reducible exact ih2 _ _ _)
      | (with_reducible exact ih3 _ _ _)
      | (with_reducible exact correctorlaw7_known.mono _)
      | (with_reducible exact quote_Text.mono _ _ _)
      | (with_reducible exact LeO.refl _)
      | (with_reducible exact LeO.none _)
      | (with_reducible refine LeO.ite ?_ ?_)
      | (with_reducible refine LeO.bind ?_ (fun _ => ?_))
      | exact ih0 _ _ _ _ _
      | exact ih1 _ _ _ _ _ _
      | exact ih2 _ _ _
      | exact ih3 _ _ _
      | exact correctorlaw7_known.mono _
      | exact quote_Text.mono _ _ _
      | exact LeO.none _
      | refine LeO.ite ?_ ?_
      | refine LeO.bind ?_ (fun _ => ?_)
    · intro y0 y1 y2 y3 y4 y5
      unfold correctorlaw7_QuoteBad.j1
      repeat' first
      | (with_reducible exact ih0 _ _ _ _ _)
      | (with_reducible exact ih1 _ _ _ _ _ _)
      | (with_reducible exact ih2 _ _ _)
      | (with_reducible exact ih3 _ _ _)
      | (with_reducible exact correctorlaw7_known.mono _)
      | (with_reducible exact quote_Text.mono _ _ _)
      | (with_reducible exact LeO.refl _)
      | (with_reducible exact LeO.none _)
      | (with_reducible refine LeO.ite ?_ ?_)
      | (with_reducible refine LeO.bind ?_ (fun _ => ?_))
      | exact ih0 _ _ _ _ _
      | exact ih1 _ _ _ _ _ _
      | exact ih2 _ _ _
      | exact ih3 _ _ _
      | exact correctorlaw7_known.mono _
      | exact quote_Text.mono _ _ _
      | exact LeO.none _
      | refine LeO.ite ?_ ?_
      | refine LeO.bind ?_ (fun _ => ?_)
    · intro y0 y1 y2
      unfold correctorlaw7_QuoteBad.j2
      repeat' first
      | (with_reducible exact ih0 _ _ _ _ _)
      | (with_reducible exact ih1 _ _ _ _ _ _)
      | (with_reducible exact ih2 _ _ _)
      | (with_reducible exact ih3 _ _ _)
      | (with_reducible exact correctorlaw7_known.mono _)
      | (with_reducible exact quote_Text.mono _ _ _)
      | (with_reducible exact LeO.refl _)
      | (with_reducible exact LeO.none _)
      | (with_reducible refine LeO.ite ?_ ?_)
      | (with_reducible refine LeO.bind ?_ (fun _ => ?_))
      | exact ih0 _ _ _ _ _
      | exact ih1 _ _ _ _ _ _
      | exact ih2 _ _ _
      | exact ih3 _ _ _
      | exact correctorlaw7_known.mono _
      | exact quote_Text.mono _ _ _
      | exact LeO.none _
      | refine LeO.ite ?_ ?_
      | refine LeO.bind ?_ (fun _ => ?_)
    · intro y0 y1 y2
      unfold correctorlaw7_QuoteBad.l1
      repeat' first
      | (with_reducible exact ih0 _ _ _ _ _)
      | (with_reducible exact ih1 _ _ _ _ _ _)
      | (with_reducible exact ih2 _ _ _)
      | (with_reducible exact ih3 _ _ _)
      | (with_reducible exact correctorlaw7_known.mono _)
      | (with_reducible exact quote_Text.mono _ _ _)
      | (with_reducible exact LeO.refl _)
      | (with_reducible exact LeO.none _)
      | (with_reducible refine LeO.ite ?_ ?_)
      | (with_reducible refine LeO.bind ?_ (fun _ => ?_))
      | exact ih0 _ _ _ _ _
      | exact ih1 _ _ _ _ _ _
      | exact ih2 _ _ _
      | exact ih3 _ _ _
      | exact correctorlaw7_known.mono _
      | exact quote_Text.mono _ _ _
      | exact LeO.none _
      | refine LeO.ite ?_ ?_
      | refine LeO.bind ?_ (fun _ => ?_)
theorem correctorlaw7_QuoteBad.mono : ∀ a0 k, LeO (correctorlaw7_QuoteBad.f k a0) (correctorlaw7_QuoteBad.f (k + 1) a0) := by
  intro a0 k
  obtain ⟨ih0, ih1, ih2, ih3⟩ := correctorlaw7_QuoteBad.mono_l k
  unfold correctorlaw7_QuoteBad.f
  repeat' first
      | (with_reducible exact ih0 _ _ _ _ _)
      | (with_reducible exact ih1 _ _ _ _ _ _)
      | (with_reducible exact ih2 _ _ _)
      | (with_reducible exact ih3 _ _ _)
      | (with_reducible exact correctorlaw7_known.mono _)
      | (with_reducible exact quote_Text.mono _ _ _)
      | (with_reducible exact LeO.refl _)
      | (with_reducible exact LeO.none _)
      | (with_reducible refine LeO.ite ?_ ?_)
      | (with_reducible refine LeO.bind ?_ (fun _ => ?_))
      | exact ih0 _ _ _ _ _
      | exact ih1 _ _ _ _ _ _
      | exact ih2 _ _ _
      | exact ih3 _ _ _
      | exact correctorlaw7_known.mono _
      | exact quote_Text.mono _ _ _
      | exact LeO.none _
      | refine LeO.ite ?_ ?_
      | refine LeO.bind ?_ (fun _ => ?_)
set_option maxHeartbeats 8000000 in
set_option maxRecDepth 100000 in
theorem correctorlaw7_QuoteBad.calls (k : Nat) (A0 : Option Addr) (c0 : Nat) (l0 : List Bool) (r : Bool) (w : World) (hr0 : Kd.C Kd.bool w A0 l0.length l0) (hc0 : l0.length ≤ c0) (h : correctorlaw7_QuoteBad.f k l0 = some r) :
    Calls Try.prog 5 #[.slice A0 l0.length c0] w fun e w' => e = .returned (.bool r) ∧ Below w.heap.size w w' := by
  have HR0 := Aside0.mk hr0
  have HC0 := Aside0.mk hc0
  clear hr0 hc0
  have HB := Aside0.mk (Below.refl w.heap.size w)
  have H : ((correctorlaw7_known.f k).bind fun t228 => (if t228 = true then (correctorlaw7_QuoteBad.l0 k l0 (⟨#[34]⟩ : ByteArray) (⟨#[]⟩ : ByteArray) 0 0) else (some false))) = some r := h
  clear h
  replace H := Option.bind_eq_some_iff.mp H
  obtain ⟨t228, A20, H⟩ := H
  replace H : (if t228 = true then (correctorlaw7_QuoteBad.l0 k l0 (⟨#[34]⟩ : ByteArray) (⟨#[]⟩ : ByteArray) 0 0) else (some false)) = some r := H
  have A2 := Aside0.mk A20
  clear A20
  by_cases c3 : t228 = true
  · subst c3
    have H1 : (correctorlaw7_QuoteBad.l0 k l0 (⟨#[34]⟩ : ByteArray) (⟨#[]⟩ : ByteArray) 0 0) = some r := by rw [if_pos rfl] at H; exact H
    clear H
    have H := H1
    clear H1
    have H' := Aside0.mk H
    clear H
    go_enter Try.func5, Try.ntmps5
    go_wp2_with (first | (go_at_call 9; (with_reducible refine (correctorlaw7_known.calls k  true _ A2.out).mono ?_); rintro e w4 ⟨rfl, hb⟩; have n0_ := Aside0.mk (below_step (by repeat (first | (with_reducible first | exact HB.out | apply below_alloc | apply pw_below_drewN | apply below_drew1) | exact HB.out)) hb); clear HB; have HB := n0_; clear n0_; (try clear hb); (try clear hb2); (try clear hk); (try clear hi)))
    repeat (go_quiet (first | (go_at_call 9; (with_reducible refine (correctorlaw7_known.calls k  true _ A2.out).mono ?_); rintro e w4 ⟨rfl, hb⟩; have n0_ := Aside0.mk (below_step (by repeat (first | (with_reducible first | exact HB.out | apply below_alloc | apply pw_below_drewN | apply below_drew1) | exact HB.out)) hb); clear HB; have HB := n0_; clear n0_; (try clear hb); (try clear hb2); (try clear hk); (try clear hi))); try go_wp2_with (first | (go_at_call 9; (with_reducible refine (correctorlaw7_known.calls k  true _ A2.out).mono ?_); rintro e w4 ⟨rfl, hb⟩; have n0_ := Aside0.mk (below_step (by repeat (first | (with_reducible first | exact HB.out | apply below_alloc | apply pw_below_drewN | apply below_drew1) | exact HB.out)) hb); clear HB; have HB := n0_; clear n0_; (try clear hb); (try clear hb2); (try clear hk); (try clear hi))))
    go_loopg [3, 4, 5, 6] k (fun kq v3 v4 v5 v6 w' => ∃ (x3_1 : ByteArray) (x4_1 : ByteArray) (x5_1 : Int) (x6_1 : Int), v3 = .string x3_1 ∧ v4 = .string x4_1 ∧ v5 = .int .i64 x5_1 ∧ v6 = .int .i64 x6_1 ∧ Aside0 (correctorlaw7_QuoteBad.l0 kq l0 x3_1 x4_1 x5_1 x6_1 = some r) ∧ Aside0 (kq ≤ k) ∧ Aside0 (Below w.heap.size w w'))
    case atStart => exact ⟨((⟨#[34]⟩ : ByteArray)), ((⟨#[]⟩ : ByteArray)), (0), (0), (by first | rfl | (simp; done) | (simp [*]; done)), (by first | rfl | (simp; done) | (simp [*]; done)), (by first | rfl | (simp; done) | (simp [*]; done)), (by first | rfl | (simp; done) | (simp [*]; done)), H', ⟨Nat.le_refl _⟩, ⟨by repeat (first | (with_reducible first | exact HB.out | apply below_alloc | apply pw_below_drewN | apply below_drew1) | exact HB.out)⟩⟩
    case round =>
      clear H'
      try clear p2
      try clear c3
      obtain ⟨x3_1, x4_1, x5_1, x6_1, rfl, rfl, rfl, rfl, HA, HK1, HB⟩ := hrel
      cases gk with
      | zero => exact absurd HA.out (by simp [correctorlaw7_QuoteBad.l0])
      | succ k1 =>
        have H := HA.out
        clear HA
        simp only [correctorlaw7_QuoteBad.l0] at H
        have HC5 := Aside0.mk H
        clear H
        go_upto_region 6 with (fail)
        repeat (go_quiet (fail); go_upto_region 6 with (fail))
        go_cut [20] (fun v20 wc => ∃ (kq : Nat) (x20_4 : Bool), v20 = .bool x20_4 ∧ Aside0 (correctorlaw7_QuoteBad.j1 kq l0 x3_1 x4_1 x5_1 x6_1 x20_4 = some r) ∧ Aside0 (kq ≤ k1) ∧ Aside0 (Below w.heap.size w wc))
        case first =>
          have H := HC5.out
          clear HC5
          by_cases c6 : x6_1 < (l0.length : Int)
          · rw [if_pos c6] at H
            have c6b0 : decide (x6_1 < (l0.length : Int)) = true := decide_eq_true c6
            clear c6
            (first | rw [c6b0] | (simp only [i64_w, i32_w]; rw [c6b0]) | skip)
            have H' := Aside0.mk H
            clear H
            go_wp2
            repeat (go_quiet (fail); try go_wp2)
            go_meet
            case rel => exact ⟨_, (decide (x6_1 < 20)), (by first | rfl | (simp; done) | (simp [*]; done)), H', ⟨by have := HK1.out; first | omega | exact Nat.le_refl _⟩, ⟨by repeat (first | (with_reducible first | exact HB.out | apply below_alloc | apply pw_below_drewN | apply below_drew1) | exact HB.out)⟩⟩
          · rw [if_neg c6] at H
            have c6b0 : decide (x6_1 < (l0.length : Int)) = false := decide_eq_false c6
            clear c6
            (first | rw [c6b0] | (simp only [i64_w, i32_w]; rw [c6b0]) | skip)
            have H' := Aside0.mk H
            clear H
            go_wp2
            repeat (go_quiet (fail); try go_wp2)
            go_meet
            case rel => exact ⟨_, (false), (by first | rfl | (simp; done) | (simp [*]; done)), H', ⟨by have := HK1.out; first | omega | exact Nat.le_refl _⟩, ⟨by repeat (first | (with_reducible first | exact HB.out | apply below_alloc | apply pw_below_drewN | apply below_drew1) | exact HB.out)⟩⟩
        case rest =>
          clear HC5
          try clear p2
          try clear c3
          try clear c5
          try clear c6
          try clear c6b0
          try clear p2
          obtain ⟨kq, x20_4, rfl, HA, HJ4, HB⟩ := hcut
          cases kq with
          | zero => exact absurd HA.out (by simp [correctorlaw7_QuoteBad.j1])
          | succ kj4 =>
            have H := HA.out
            clear HA
            simp only [correctorlaw7_QuoteBad.j1] at H
            by_cases c7 : x20_4 = true
            · subst c7
              have H1 : (if 0 ≤ x6_1 then (if x6_1 < (l0.length : Int) then (if rdOf false l0 x6_1 = true then (if x3_1.size + 2 ≤ 9223372036854775807 then (if x4_1.size + 2 ≤ 9223372036854775807 then (correctorlaw7_QuoteBad.l0 kj4 l0 (x3_1 ++ (⟨#[92, 113]⟩ : ByteArray)) (x4_1 ++ (⟨#[92, 113]⟩ : ByteArray)) (wrap64 (x5_1 + 1)) (wrap64 (x6_1 + 1))) else (none)) else (none)) else (if x3_1.size + 2 ≤ 9223372036854775807 then (if x4_1.size + 1 ≤ 9223372036854775807 then (correctorlaw7_QuoteBad.l0 kj4 l0 (x3_1 ++ (⟨#[92, 110]⟩ : ByteArray)) (x4_1 ++ (⟨#[10]⟩ : ByteArray)) x5_1 (wrap64 (x6_1 + 1))) else (none)) else (none))) else (none)) else (none)) = some r := by rw [if_pos rfl] at H; exact H
              clear H
              have H := H1
              clear H1
              by_cases c8 : 0 ≤ x6_1
              · rw [if_pos c8] at H
                have c8b0 : decide (0 ≤ x6_1) = true := decide_eq_true c8
                clear c8
                by_cases c9 : x6_1 < (l0.length : Int)
                · rw [if_pos c9] at H
                  have c9b0 : decide (x6_1 < (l0.length : Int)) = true := decide_eq_true c9
                  clear c9
                  obtain ⟨bq10, hbq10⟩ : ∃ b_ : Bool, b_ = (rdOf false l0 x6_1) := ⟨_, rfl⟩
                  replace H : (if bq10 = true then (if x3_1.size + 2 ≤ 9223372036854775807 then (if x4_1.size + 2 ≤ 9223372036854775807 then (correctorlaw7_QuoteBad.l0 kj4 l0 (x3_1 ++ (⟨#[92, 113]⟩ : ByteArray)) (x4_1 ++ (⟨#[92, 113]⟩ : ByteArray)) (wrap64 (x5_1 + 1)) (wrap64 (x6_1 + 1))) else (none)) else (none)) else (if x3_1.size + 2 ≤ 9223372036854775807 then (if x4_1.size + 1 ≤ 9223372036854775807 then (correctorlaw7_QuoteBad.l0 kj4 l0 (x3_1 ++ (⟨#[92, 110]⟩ : ByteArray)) (x4_1 ++ (⟨#[10]⟩ : ByteArray)) x5_1 (wrap64 (x6_1 + 1))) else (none)) else (none))) = some r := by rw [← hbq10] at H; exact H
                  have Nbq10 := Aside0.mk hbq10
                  clear hbq10
                  by_cases c11 : bq10 = true
                  · subst c11
                    have H1 : (if x3_1.size + 2 ≤ 9223372036854775807 then (if x4_1.size + 2 ≤ 9223372036854775807 then (correctorlaw7_QuoteBad.l0 kj4 l0 (x3_1 ++ (⟨#[92, 113]⟩ : ByteArray)) (x4_1 ++ (⟨#[92, 113]⟩ : ByteArray)) (wrap64 (x5_1 + 1)) (wrap64 (x6_1 + 1))) else (none)) else (none)) = some r := by rw [if_pos rfl] at H; exact H
                    clear H
                    have H := H1
                    clear H1
                    by_cases c12 : x3_1.size + 2 ≤ 9223372036854775807
                    · rw [if_pos c12] at H
                      have c12b0 := eq_true c12
                      have c12b1 : decide (x3_1.size + 2 ≤ 9223372036854775807) = true := decide_eq_true c12
                      try have c12b2 : (9223372036854775807 < x3_1.size + 2) = False := eq_false (Nat.not_lt.2 c12)
                      by_cases c13 : x4_1.size + 2 ≤ 9223372036854775807
                      · rw [if_pos c13] at H
                        have c13b0 := eq_true c13
                        have c13b1 : decide (x4_1.size + 2 ≤ 9223372036854775807) = true := decide_eq_true c13
                        try have c13b2 : (9223372036854775807 < x4_1.size + 2) = False := eq_false (Nat.not_lt.2 c13)
                        have H' := Aside0.mk H
                        clear H
                        have p229 : 0 ≤ (x6_1 : Int) := of_decide_eq_true (by first | (with_reducible assumption) | assumption)
                        have q229 : x6_1 < (l0.length : Int) := of_decide_eq_true (by first | (with_reducible assumption) | assumption)
                        obtain ⟨ad229, e229, hx229_0⟩ := Kd.at_bool HR0.out x6_1 p229 q229
                        (try rw [← Nbq10.out] at hx229_0)
                        cases e229
                        replace hx229_0 := (HB.out.cell (World.block_lt_of_cell? w _ hx229_0)).trans hx229_0
                        replace p229 := eq_true p229
                        replace q229 := eq_true q229
                        go_wp2
                        repeat (go_quiet (fail); try go_wp2)
                        go_roundg kj4
                        case measure => have := HK1.out; have := HJ4.out; omega
                        case rel => exact ⟨(x3_1 ++ (⟨#[92, 113]⟩ : ByteArray)), (x4_1 ++ (⟨#[92, 113]⟩ : ByteArray)), (wrap64 (x5_1 + 1)), (wrap64 (x6_1 + 1)), (by first | rfl | (simp; done) | (simp [*]; done)), (by first | rfl | (simp; done) | (simp [*]; done)), (by first | rfl | (simp; done) | (simp [*]; done)), (by first | rfl | (simp; done) | (simp [*]; done)), H', ⟨by have := HK1.out; have := HJ4.out; omega⟩, ⟨by repeat (first | (with_reducible first | exact HB.out | apply below_alloc | apply pw_below_drewN | apply below_drew1) | exact HB.out)⟩⟩
                      · rw [if_neg c13] at H
                        exact absurd H (by simp)
                    · rw [if_neg c12] at H
                      exact absurd H (by simp)
                  · replace c11 := Bool.eq_false_iff.mpr c11
                    subst c11
                    have H1 : (if x3_1.size + 2 ≤ 9223372036854775807 then (if x4_1.size + 1 ≤ 9223372036854775807 then (correctorlaw7_QuoteBad.l0 kj4 l0 (x3_1 ++ (⟨#[92, 110]⟩ : ByteArray)) (x4_1 ++ (⟨#[10]⟩ : ByteArray)) x5_1 (wrap64 (x6_1 + 1))) else (none)) else (none)) = some r := by rw [if_neg (show ¬ (false = true) by decide)] at H; exact H
                    clear H
                    have H := H1
                    clear H1
                    by_cases c14 : x3_1.size + 2 ≤ 9223372036854775807
                    · rw [if_pos c14] at H
                      have c14b0 := eq_true c14
                      have c14b1 : decide (x3_1.size + 2 ≤ 9223372036854775807) = true := decide_eq_true c14
                      try have c14b2 : (9223372036854775807 < x3_1.size + 2) = False := eq_false (Nat.not_lt.2 c14)
                      by_cases c15 : x4_1.size + 1 ≤ 9223372036854775807
                      · rw [if_pos c15] at H
                        have c15b0 := eq_true c15
                        have c15b1 : decide (x4_1.size + 1 ≤ 9223372036854775807) = true := decide_eq_true c15
                        try have c15b2 : (9223372036854775807 < x4_1.size + 1) = False := eq_false (Nat.not_lt.2 c15)
                        have H' := Aside0.mk H
                        clear H
                        have p229 : 0 ≤ (x6_1 : Int) := of_decide_eq_true (by first | (with_reducible assumption) | assumption)
                        have q229 : x6_1 < (l0.length : Int) := of_decide_eq_true (by first | (with_reducible assumption) | assumption)
                        obtain ⟨ad229, e229, hx229_0⟩ := Kd.at_bool HR0.out x6_1 p229 q229
                        (try rw [← Nbq10.out] at hx229_0)
                        cases e229
                        replace hx229_0 := (HB.out.cell (World.block_lt_of_cell? w _ hx229_0)).trans hx229_0
                        replace p229 := eq_true p229
                        replace q229 := eq_true q229
                        go_wp2
                        repeat (go_quiet (fail); try go_wp2)
                        go_roundg kj4
                        case measure => have := HK1.out; have := HJ4.out; omega
                        case rel => exact ⟨(x3_1 ++ (⟨#[92, 110]⟩ : ByteArray)), (x4_1 ++ (⟨#[10]⟩ : ByteArray)), (x5_1), (wrap64 (x6_1 + 1)), (by first | rfl | (simp; done) | (simp [*]; done)), (by first | rfl | (simp; done) | (simp [*]; done)), (by first | rfl | (simp; done) | (simp [*]; done)), (by first | rfl | (simp; done) | (simp [*]; done)), H', ⟨by have := HK1.out; have := HJ4.out; omega⟩, ⟨by repeat (first | (with_reducible first | exact HB.out | apply below_alloc | apply pw_below_drewN | apply below_drew1) | exact HB.out)⟩⟩
                      · rw [if_neg c15] at H
                        exact absurd H (by simp)
                    · rw [if_neg c14] at H
                      exact absurd H (by simp)
                · rw [if_neg c9] at H
                  exact absurd H (by simp)
              · rw [if_neg c8] at H
                exact absurd H (by simp)
            · replace c7 := Bool.eq_false_iff.mpr c7
              subst c7
              have H1 : (if x3_1.size + 1 ≤ 9223372036854775807 then ((quote_Text.f kj4 17 (x3_1 ++ (⟨#[34]⟩ : ByteArray))).bind fun bt230 => (if bt230.1.toList = x4_1.toList then (if (bt230.2.1.length : Int) = x5_1 then (correctorlaw7_QuoteBad.j2 kj4 x3_1 bt230.2.1 (!bt230.2.2)) else (correctorlaw7_QuoteBad.j2 kj4 x3_1 bt230.2.1 true)) else (correctorlaw7_QuoteBad.j2 kj4 x3_1 bt230.2.1 true))) else (none)) = some r := by rw [if_neg (show ¬ (false = true) by decide)] at H; exact H
              clear H
              have H := H1
              clear H1
              by_cases c16 : x3_1.size + 1 ≤ 9223372036854775807
              · rw [if_pos c16] at H
                have c16b0 := eq_true c16
                have c16b1 : decide (x3_1.size + 1 ≤ 9223372036854775807) = true := decide_eq_true c16
                try have c16b2 : (9223372036854775807 < x3_1.size + 1) = False := eq_false (Nat.not_lt.2 c16)
                replace H := Option.bind_eq_some_iff.mp H
                obtain ⟨⟨t230, t231, t232⟩, A170, H⟩ := H
                replace H : (if t230.toList = x4_1.toList then (if (t231.length : Int) = x5_1 then (correctorlaw7_QuoteBad.j2 kj4 x3_1 t231 (!t232)) else (correctorlaw7_QuoteBad.j2 kj4 x3_1 t231 true)) else (correctorlaw7_QuoteBad.j2 kj4 x3_1 t231 true)) = some r := H
                have A17 := Aside0.mk A170
                clear A170
                have HC18 := Aside0.mk H
                clear H
                go_upto_region 13 with (first | (go_at_call 11; (with_reducible refine (quote_Text.calls kj4 17 (x3_1 ++ (⟨#[34]⟩ : ByteArray)) t230 t231 t232 _ A17.out).mono ?_); rintro e w19 ⟨v233, rfl, ho0, hb⟩; have n0_ := Aside0.mk (Kd.R_lower ho0 (below_size (by repeat (first | (with_reducible first | exact HB.out | apply below_alloc | apply pw_below_drewN | apply below_drew1) | exact HB.out)))); have n1_ := Aside0.mk (below_step (by repeat (first | (with_reducible first | exact HB.out | apply below_alloc | apply pw_below_drewN | apply below_drew1) | exact HB.out)) hb); clear HB; have HO234 := n0_; have HB := n1_; clear n0_ n1_; (try clear hb); (try clear hb2); (try clear hk); (try clear hi); (try clear ho0)))
                repeat (go_quiet (first | (go_at_call 11; (with_reducible refine (quote_Text.calls kj4 17 (x3_1 ++ (⟨#[34]⟩ : ByteArray)) t230 t231 t232 _ A17.out).mono ?_); rintro e w19 ⟨v233, rfl, ho0, hb⟩; have n0_ := Aside0.mk (Kd.R_lower ho0 (below_size (by repeat (first | (with_reducible first | exact HB.out | apply below_alloc | apply pw_below_drewN | apply below_drew1) | exact HB.out)))); have n1_ := Aside0.mk (below_step (by repeat (first | (with_reducible first | exact HB.out | apply below_alloc | apply pw_below_drewN | apply below_drew1) | exact HB.out)) hb); clear HB; have HO234 := n0_; have HB := n1_; clear n0_ n1_; (try clear hb); (try clear hb2); (try clear hk); (try clear hi); (try clear ho0))); go_upto_region 13 with (first | (go_at_call 11; (with_reducible refine (quote_Text.calls kj4 17 (x3_1 ++ (⟨#[34]⟩ : ByteArray)) t230 t231 t232 _ A17.out).mono ?_); rintro e w19 ⟨v233, rfl, ho0, hb⟩; have n0_ := Aside0.mk (Kd.R_lower ho0 (below_size (by repeat (first | (with_reducible first | exact HB.out | apply below_alloc | apply pw_below_drewN | apply below_drew1) | exact HB.out)))); have n1_ := Aside0.mk (below_step (by repeat (first | (with_reducible first | exact HB.out | apply below_alloc | apply pw_below_drewN | apply below_drew1) | exact HB.out)) hb); clear HB; have HO234 := n0_; have HB := n1_; clear n0_ n1_; (try clear hb); (try clear hb2); (try clear hk); (try clear hi); (try clear ho0))))
                (try simp only [Act.put, List.setIfInBounds_toArray, List.set_cons_zero, List.set_cons_succ])
                go_cut [56] (fun v56 wc => ∃ (kq : Nat) (x56_17 : Bool), v56 = .bool x56_17 ∧ Aside0 (correctorlaw7_QuoteBad.j2 kq x3_1 t231 x56_17 = some r) ∧ Aside0 (kq ≤ kj4) ∧ Aside0 (Kd.R (Kd.int .i64) 3 wc w.heap.size (fun _ => True) v233 t231) ∧ Aside0 (Below w.heap.size w wc))
                case first =>
                  have H := HC18.out
                  clear HC18
                  by_cases c20 : t230.toList = x4_1.toList
                  · rw [if_pos c20] at H
                    have c20b0 : (t230.toList == x4_1.toList) = true := beq_iff_eq.mpr c20
                    have c20b1 : (t230.toList != x4_1.toList) = false := bne_eq_false_iff_eq.mpr c20
                    clear c20
                    (first | rw [c20b0] | (simp only [i64_w, i32_w]; rw [c20b0]) | skip)
                    by_cases c21 : (t231.length : Int) = x5_1
                    · rw [if_pos c21] at H
                      have c21b0 : ((t231.length : Int) == x5_1) = true := beq_iff_eq.mpr c21
                      have c21b1 : ((t231.length : Int) != x5_1) = false := bne_eq_false_iff_eq.mpr c21
                      clear c21
                      have H' := Aside0.mk H
                      clear H
                      obtain ⟨Ao22, co22, eo22⟩ := Kd.R_slice HO234.out
                      subst eo22
                      go_wp2
                      repeat (go_quiet (fail); try go_wp2)
                      go_meet
                      case rel => exact ⟨_, (!t232), (by first | rfl | (simp; done) | (simp [*]; done)), H', ⟨by have := HK1.out; have := HJ4.out; first | omega | exact Nat.le_refl _⟩, ⟨by (with_reducible repeat (first | apply Kd.R_alloc | apply Kd.R_drewN | apply Kd.R_drew)); exact HO234.out⟩, ⟨by repeat (first | (with_reducible first | exact HB.out | apply below_alloc | apply pw_below_drewN | apply below_drew1) | exact HB.out)⟩⟩
                    · rw [if_neg c21] at H
                      have c21b0 : ((t231.length : Int) == x5_1) = false := beq_eq_false_iff_ne.mpr c21
                      have c21b1 : ((t231.length : Int) != x5_1) = true := bne_iff_ne.mpr c21
                      have H' := Aside0.mk H
                      clear H
                      obtain ⟨Ao23, co23, eo23⟩ := Kd.R_slice HO234.out
                      subst eo23
                      go_wp2
                      repeat (go_quiet (fail); try go_wp2)
                      go_meet
                      case rel => exact ⟨_, (true), (by first | rfl | (simp; done) | (simp [*]; done)), H', ⟨by have := HK1.out; have := HJ4.out; first | omega | exact Nat.le_refl _⟩, ⟨by (with_reducible repeat (first | apply Kd.R_alloc | apply Kd.R_drewN | apply Kd.R_drew)); exact HO234.out⟩, ⟨by repeat (first | (with_reducible first | exact HB.out | apply below_alloc | apply pw_below_drewN | apply below_drew1) | exact HB.out)⟩⟩
                  · rw [if_neg c20] at H
                    have c20b0 : (t230.toList == x4_1.toList) = false := beq_eq_false_iff_ne.mpr c20
                    have c20b1 : (t230.toList != x4_1.toList) = true := bne_iff_ne.mpr c20
                    (first | rw [c20b0] | (simp only [i64_w, i32_w]; rw [c20b0]) | skip)
                    have H' := Aside0.mk H
                    clear H
                    go_wp2
                    repeat (go_quiet (fail); try go_wp2)
                    go_meet
                    case rel => exact ⟨_, (true), (by first | rfl | (simp; done) | (simp [*]; done)), H', ⟨by have := HK1.out; have := HJ4.out; first | omega | exact Nat.le_refl _⟩, ⟨by (with_reducible repeat (first | apply Kd.R_alloc | apply Kd.R_drewN | apply Kd.R_drew)); exact HO234.out⟩, ⟨by repeat (first | (with_reducible first | exact HB.out | apply below_alloc | apply pw_below_drewN | apply below_drew1) | exact HB.out)⟩⟩
                case rest =>
                  clear HC18
                  try clear c1
                  try clear q1
                  try clear c2
                  try clear p2
                  try clear q2
                  try clear hx2
                  try clear c3
                  try clear c5
                  try clear c6
                  try clear c6b0
                  try clear p6
                  try clear c7
                  try clear c8
                  try clear c8b0
                  try clear c9
                  try clear c9b0
                  try clear q10
                  try clear c11
                  try clear c12
                  try clear c12b0
                  try clear c12b1
                  try clear c12b2
                  try clear c13
                  try clear c13b0
                  try clear c13b1
                  try clear c13b2
                  try clear c14
                  try clear c14b0
                  try clear c14b1
                  try clear c14b2
                  try clear c15
                  try clear c15b0
                  try clear c15b1
                  try clear c15b2
                  try clear c16
                  try clear c16b0
                  try clear c16b1
                  try clear c16b2
                  try clear c20
                  try clear c20b0
                  try clear c20b1
                  try clear c21
                  try clear c21b0
                  try clear c21b1
                  try clear p22
                  try clear q22
                  try clear hx22
                  try clear hx229_0
                  try clear p2
                  try clear p229
                  try clear q229
                  obtain ⟨kq, x56_17, rfl, HA, HJ17, HO_8, HB⟩ := hcut
                  cases kq with
                  | zero => exact absurd HA.out (by simp [correctorlaw7_QuoteBad.j2])
                  | succ kj17 =>
                    have H := HA.out
                    clear HA
                    simp only [correctorlaw7_QuoteBad.j2] at H
                    by_cases c24 : x56_17 = true
                    · subst c24
                      have H1 : (some false) = some r := by rw [if_pos rfl] at H; exact H
                      clear H
                      have H := H1
                      clear H1
                      obtain rfl := Option.some.inj H
                      go_wp2
                      repeat (go_quiet (fail); try go_wp2)
                      go_ret
                      exact ⟨by first | rfl | (simp [errW_none, errW_some] <;> rfl) | (simp [*, errW_none, errW_some] <;> rfl), by repeat (first | (with_reducible first | exact HB.out | apply below_alloc | apply pw_below_drewN | apply below_drew1) | exact HB.out)⟩
                    · replace c24 := Bool.eq_false_iff.mpr c24
                      subst c24
                      have H1 : (correctorlaw7_QuoteBad.l1 kj17 x3_1 t231 0) = some r := by rw [if_neg (show ¬ (false = true) by decide)] at H; exact H
                      clear H
                      have H := H1
                      clear H1
                      have H' := Aside0.mk H
                      clear H
                      go_wp2
                      repeat (go_quiet (fail); try go_wp2)
                      go_loopg [10] kj17 (fun kq v10 w' => ∃ (x10_4 : Int), v10 = .int .i64 x10_4 ∧ Aside0 (correctorlaw7_QuoteBad.l1 kq x3_1 t231 x10_4 = some r) ∧ Aside0 (kq ≤ kj17) ∧ Aside0 (Kd.R (Kd.int .i64) 3 w' w.heap.size (fun _ => True) v233 t231) ∧ Aside0 (Below w.heap.size w w'))
                      case atStart => exact ⟨(0), (by first | rfl | (simp; done) | (simp [*]; done)), H', ⟨Nat.le_refl _⟩, ⟨by (with_reducible repeat (first | apply Kd.R_alloc | apply Kd.R_drewN | apply Kd.R_drew)); exact HO_8.out⟩, ⟨by repeat (first | (with_reducible first | exact HB.out | apply below_alloc | apply pw_below_drewN | apply below_drew1) | exact HB.out)⟩⟩
                      case round =>
                        clear H'
                        try clear c1
                        try clear q1
                        try clear c2
                        try clear p2
                        try clear q2
                        try clear hx2
                        try clear c3
                        try clear c5
                        try clear c6
                        try clear c6b0
                        try clear p6
                        try clear c7
                        try clear c8
                        try clear c8b0
                        try clear c9
                        try clear c9b0
                        try clear q10
                        try clear c11
                        try clear c12
                        try clear c12b0
                        try clear c12b1
                        try clear c12b2
                        try clear c13
                        try clear c13b0
                        try clear c13b1
                        try clear c13b2
                        try clear c14
                        try clear c14b0
                        try clear c14b1
                        try clear c14b2
                        try clear c15
                        try clear c15b0
                        try clear c15b1
                        try clear c15b2
                        try clear c16
                        try clear c16b0
                        try clear c16b1
                        try clear c16b2
                        try clear c20
                        try clear c20b0
                        try clear c20b1
                        try clear c21
                        try clear c21b0
                        try clear c21b1
                        try clear p22
                        try clear q22
                        try clear hx22
                        try clear c24
                        try clear hx229_0
                        try clear p2
                        try clear p22
                        try clear p229
                        try clear p6
                        try clear q1
                        try clear q10
                        try clear q2
                        try clear q22
                        try clear q229
                        obtain ⟨x10_4, rfl, HA, HK4, HO_8, HB⟩ := hrel
                        cases gk with
                        | zero => exact absurd HA.out (by simp [correctorlaw7_QuoteBad.l1])
                        | succ k4 =>
                          have H := HA.out
                          clear HA
                          simp only [correctorlaw7_QuoteBad.l1] at H
                          by_cases c25 : x10_4 < (t231.length : Int)
                          · rw [if_pos c25] at H
                            have c25b0 : decide (x10_4 < (t231.length : Int)) = true := decide_eq_true c25
                            clear c25
                            by_cases c26 : 0 ≤ x10_4
                            · rw [if_pos c26] at H
                              have c26b0 : decide (0 ≤ x10_4) = true := decide_eq_true c26
                              clear c26
                              by_cases c27 : (rd t231 x10_4) < 1
                              · rw [if_pos c27] at H
                                have c27b0 : decide ((rd t231 x10_4) < 1) = true := decide_eq_true c27
                                clear c27
                                obtain rfl := Option.some.inj H
                                obtain ⟨Ao28, co28, eo28⟩ := Kd.R_slice HO_8.out
                                subst eo28
                                have p235 : 0 ≤ (x10_4 : Int) := of_decide_eq_true (by first | (with_reducible assumption) | assumption)
                                have q235 : x10_4 < (t231.length : Int) := of_decide_eq_true (by first | (with_reducible assumption) | assumption)
                                obtain ⟨ad235, e235, hx235_0⟩ := Kd.at_int (Kd.R_reads' HO_8.out).2.2 x10_4 p235 q235
                                cases e235
                                replace p235 := eq_true p235
                                replace q235 := eq_true q235
                                go_wp2
                                repeat (go_quiet (fail); try go_wp2)
                                go_ret
                                exact ⟨by first | rfl | (simp [errW_none, errW_some] <;> rfl) | (simp [*, errW_none, errW_some] <;> rfl), by repeat (first | (with_reducible first | exact HB.out | apply below_alloc | apply pw_below_drewN | apply below_drew1) | exact HB.out)⟩
                              · rw [if_neg c27] at H
                                have c27b0 : decide ((rd t231 x10_4) < 1) = false := decide_eq_false c27
                                clear c27
                                by_cases c29 : (rd t231 x10_4) ≥ (x3_1.size : Int)
                                · rw [if_pos c29] at H
                                  have c29b0 : decide ((x3_1.size : Int) ≤ (rd t231 x10_4)) = true := decide_eq_true c29
                                  clear c29
                                  obtain rfl := Option.some.inj H
                                  obtain ⟨Ao30, co30, eo30⟩ := Kd.R_slice HO_8.out
                                  subst eo30
                                  have p235 : 0 ≤ (x10_4 : Int) := of_decide_eq_true (by first | (with_reducible assumption) | assumption)
                                  have q235 : x10_4 < (t231.length : Int) := of_decide_eq_true (by first | (with_reducible assumption) | assumption)
                                  obtain ⟨ad235, e235, hx235_0⟩ := Kd.at_int (Kd.R_reads' HO_8.out).2.2 x10_4 p235 q235
                                  cases e235
                                  replace p235 := eq_true p235
                                  replace q235 := eq_true q235
                                  have p236 : 0 ≤ (x10_4 : Int) := of_decide_eq_true (by first | (with_reducible assumption) | assumption)
                                  have q236 : x10_4 < (t231.length : Int) := of_decide_eq_true (by first | (with_reducible assumption) | assumption)
                                  obtain ⟨ad236, e236, hx236_0⟩ := Kd.at_int (Kd.R_reads' HO_8.out).2.2 x10_4 p236 q236
                                  obtain rfl : ad235 = ad236 := (by injection e236)
                                  replace p236 := eq_true p236
                                  replace q236 := eq_true q236
                                  go_wp2
                                  repeat (go_quiet (fail); try go_wp2)
                                  go_ret
                                  exact ⟨by first | rfl | (simp [errW_none, errW_some] <;> rfl) | (simp [*, errW_none, errW_some] <;> rfl), by repeat (first | (with_reducible first | exact HB.out | apply below_alloc | apply pw_below_drewN | apply below_drew1) | exact HB.out)⟩
                                · rw [if_neg c29] at H
                                  have c29b0 : decide ((x3_1.size : Int) ≤ (rd t231 x10_4)) = false := decide_eq_false c29
                                  clear c29
                                  by_cases c31 : 0 ≤ (rd t231 x10_4)
                                  · rw [if_pos c31] at H
                                    have c31b0 : decide (0 ≤ (rd t231 x10_4)) = true := decide_eq_true c31
                                    clear c31
                                    by_cases c32 : (rd t231 x10_4) < (x3_1.size : Int)
                                    · rw [if_pos c32] at H
                                      have c32b0 : decide ((rd t231 x10_4) < (x3_1.size : Int)) = true := decide_eq_true c32
                                      clear c32
                                      by_cases c34 : (bt x3_1 (rd t231 x10_4)) = 92
                                      · rw [if_pos c34] at H
                                        have c34b0 : ((bt x3_1 (rd t231 x10_4)) == 92) = true := beq_iff_eq.mpr c34
                                        have c34b1 : ((bt x3_1 (rd t231 x10_4)) != 92) = false := bne_eq_false_iff_eq.mpr c34
                                        clear c34
                                        by_cases c35 : x10_4 > 0
                                        · rw [if_pos c35] at H
                                          have c35b0 : decide (0 < x10_4) = true := decide_eq_true c35
                                          clear c35
                                          obtain ⟨ji36, hji36⟩ : ∃ j_ : Int, (wrap64 (x10_4 - 1)) = j_ := ⟨_, rfl⟩
                                          replace H : (if 0 ≤ (ji36) then (if (ji36) < (t231.length : Int) then (if (rd t231 x10_4) ≤ (rd t231 (ji36)) then (some false) else (correctorlaw7_QuoteBad.l1 k4 x3_1 t231 (wrap64 (x10_4 + 1)))) else (none)) else (none)) = some r := by first | (rw [hji36] at H; exact H) | (simp only [hji36] at H ⊢; exact H)
                                          have hji36w : (IntKind.i64.wrap (x10_4 - 1)) = ji36 := (i64_w _).trans hji36
                                          by_cases c37 : 0 ≤ (ji36)
                                          · rw [if_pos c37] at H
                                            have c37b0 : decide (0 ≤ (ji36)) = true := decide_eq_true c37
                                            clear c37
                                            by_cases c38 : (ji36) < (t231.length : Int)
                                            · rw [if_pos c38] at H
                                              have c38b0 : decide ((ji36) < (t231.length : Int)) = true := decide_eq_true c38
                                              clear c38
                                              by_cases c39 : (rd t231 x10_4) ≤ (rd t231 (ji36))
                                              · rw [if_pos c39] at H
                                                have c39b0 : decide ((rd t231 x10_4) ≤ (rd t231 (ji36))) = true := decide_eq_true c39
                                                clear c39
                                                obtain rfl := Option.some.inj H
                                                obtain ⟨Ao40, co40, eo40⟩ := Kd.R_slice HO_8.out
                                                subst eo40
                                                have p235 : 0 ≤ (x10_4 : Int) := of_decide_eq_true (by first | (with_reducible assumption) | assumption)
                                                have q235 : x10_4 < (t231.length : Int) := of_decide_eq_true (by first | (with_reducible assumption) | assumption)
                                                obtain ⟨ad235, e235, hx235_0⟩ := Kd.at_int (Kd.R_reads' HO_8.out).2.2 x10_4 p235 q235
                                                cases e235
                                                replace p235 := eq_true p235
                                                replace q235 := eq_true q235
                                                have p236 : 0 ≤ (x10_4 : Int) := of_decide_eq_true (by first | (with_reducible assumption) | assumption)
                                                have q236 : x10_4 < (t231.length : Int) := of_decide_eq_true (by first | (with_reducible assumption) | assumption)
                                                obtain ⟨ad236, e236, hx236_0⟩ := Kd.at_int (Kd.R_reads' HO_8.out).2.2 x10_4 p236 q236
                                                obtain rfl : ad235 = ad236 := (by injection e236)
                                                replace p236 := eq_true p236
                                                replace q236 := eq_true q236
                                                have p237 : 0 ≤ (x10_4 : Int) := of_decide_eq_true (by first | (with_reducible assumption) | assumption)
                                                have q237 : x10_4 < (t231.length : Int) := of_decide_eq_true (by first | (with_reducible assumption) | assumption)
                                                obtain ⟨ad237, e237, hx237_0⟩ := Kd.at_int (Kd.R_reads' HO_8.out).2.2 x10_4 p237 q237
                                                obtain rfl : ad235 = ad237 := (by injection e237)
                                                replace p237 := eq_true p237
                                                replace q237 := eq_true q237
                                                have p33 : 0 ≤ ((rd t231 x10_4) : Int) := of_decide_eq_true (by first | (with_reducible assumption) | assumption)
                                                have q33 : (rd t231 x10_4) < (x3_1.size : Int) := of_decide_eq_true (by first | (with_reducible assumption) | assumption)
                                                have hx33 := bt_at x3_1 (rd t231 x10_4)
                                                replace p33 := eq_true p33
                                                replace q33 := eq_true q33
                                                have p238 : 0 ≤ (x10_4 : Int) := of_decide_eq_true (by first | (with_reducible assumption) | assumption)
                                                have q238 : x10_4 < (t231.length : Int) := of_decide_eq_true (by first | (with_reducible assumption) | assumption)
                                                obtain ⟨ad238, e238, hx238_0⟩ := Kd.at_int (Kd.R_reads' HO_8.out).2.2 x10_4 p238 q238
                                                obtain rfl : ad235 = ad238 := (by injection e238)
                                                replace p238 := eq_true p238
                                                replace q238 := eq_true q238
                                                have p239 : 0 ≤ ((ji36) : Int) := of_decide_eq_true (by first | (with_reducible assumption) | assumption)
                                                have q239 : (ji36) < (t231.length : Int) := of_decide_eq_true (by first | (with_reducible assumption) | assumption)
                                                obtain ⟨ad239, e239, hx239_0⟩ := Kd.at_int (Kd.R_reads' HO_8.out).2.2 (ji36) p239 q239
                                                obtain rfl : ad235 = ad239 := (by injection e239)
                                                replace p239 := eq_true p239
                                                replace q239 := eq_true q239
                                                go_wp2
                                                repeat (go_quiet (fail); try go_wp2)
                                                go_ret
                                                exact ⟨by first | rfl | (simp [errW_none, errW_some] <;> rfl) | (simp only [← hji36]; first | rfl | (simp [errW_none, errW_some] <;> rfl)) | (simp [*, errW_none, errW_some] <;> rfl), by repeat (first | (with_reducible first | exact HB.out | apply below_alloc | apply pw_below_drewN | apply below_drew1) | exact HB.out)⟩
                                              · rw [if_neg c39] at H
                                                have c39b0 : decide ((rd t231 x10_4) ≤ (rd t231 (ji36))) = false := decide_eq_false c39
                                                clear c39
                                                have H' := Aside0.mk H
                                                clear H
                                                obtain ⟨Ao41, co41, eo41⟩ := Kd.R_slice HO_8.out
                                                subst eo41
                                                have p235 : 0 ≤ (x10_4 : Int) := of_decide_eq_true (by first | (with_reducible assumption) | assumption)
                                                have q235 : x10_4 < (t231.length : Int) := of_decide_eq_true (by first | (with_reducible assumption) | assumption)
                                                obtain ⟨ad235, e235, hx235_0⟩ := Kd.at_int (Kd.R_reads' HO_8.out).2.2 x10_4 p235 q235
                                                cases e235
                                                replace p235 := eq_true p235
                                                replace q235 := eq_true q235
                                                have p236 : 0 ≤ (x10_4 : Int) := of_decide_eq_true (by first | (with_reducible assumption) | assumption)
                                                have q236 : x10_4 < (t231.length : Int) := of_decide_eq_true (by first | (with_reducible assumption) | assumption)
                                                obtain ⟨ad236, e236, hx236_0⟩ := Kd.at_int (Kd.R_reads' HO_8.out).2.2 x10_4 p236 q236
                                                obtain rfl : ad235 = ad236 := (by injection e236)
                                                replace p236 := eq_true p236
                                                replace q236 := eq_true q236
                                                have p237 : 0 ≤ (x10_4 : Int) := of_decide_eq_true (by first | (with_reducible assumption) | assumption)
                                                have q237 : x10_4 < (t231.length : Int) := of_decide_eq_true (by first | (with_reducible assumption) | assumption)
                                                obtain ⟨ad237, e237, hx237_0⟩ := Kd.at_int (Kd.R_reads' HO_8.out).2.2 x10_4 p237 q237
                                                obtain rfl : ad235 = ad237 := (by injection e237)
                                                replace p237 := eq_true p237
                                                replace q237 := eq_true q237
                                                have p33 : 0 ≤ ((rd t231 x10_4) : Int) := of_decide_eq_true (by first | (with_reducible assumption) | assumption)
                                                have q33 : (rd t231 x10_4) < (x3_1.size : Int) := of_decide_eq_true (by first | (with_reducible assumption) | assumption)
                                                have hx33 := bt_at x3_1 (rd t231 x10_4)
                                                replace p33 := eq_true p33
                                                replace q33 := eq_true q33
                                                have p238 : 0 ≤ (x10_4 : Int) := of_decide_eq_true (by first | (with_reducible assumption) | assumption)
                                                have q238 : x10_4 < (t231.length : Int) := of_decide_eq_true (by first | (with_reducible assumption) | assumption)
                                                obtain ⟨ad238, e238, hx238_0⟩ := Kd.at_int (Kd.R_reads' HO_8.out).2.2 x10_4 p238 q238
                                                obtain rfl : ad235 = ad238 := (by injection e238)
                                                replace p238 := eq_true p238
                                                replace q238 := eq_true q238
                                                have p239 : 0 ≤ ((ji36) : Int) := of_decide_eq_true (by first | (with_reducible assumption) | assumption)
                                                have q239 : (ji36) < (t231.length : Int) := of_decide_eq_true (by first | (with_reducible assumption) | assumption)
                                                obtain ⟨ad239, e239, hx239_0⟩ := Kd.at_int (Kd.R_reads' HO_8.out).2.2 (ji36) p239 q239
                                                obtain rfl : ad235 = ad239 := (by injection e239)
                                                replace p239 := eq_true p239
                                                replace q239 := eq_true q239
                                                go_wp2
                                                repeat (go_quiet (fail); try go_wp2)
                                                go_roundg k4
                                                case measure => have := HK1.out; have := HJ4.out; have := HJ17.out; have := HK4.out; omega
                                                case rel => exact ⟨(wrap64 (x10_4 + 1)), (by first | rfl | (simp; done) | (simp [*]; done)), H', ⟨by have := HK1.out; have := HJ4.out; have := HJ17.out; have := HK4.out; omega⟩, ⟨by (with_reducible repeat (first | apply Kd.R_alloc | apply Kd.R_drewN | apply Kd.R_drew)); exact HO_8.out⟩, ⟨by repeat (first | (with_reducible first | exact HB.out | apply below_alloc | apply pw_below_drewN | apply below_drew1) | exact HB.out)⟩⟩
                                            · rw [if_neg c38] at H
                                              exact absurd H (by simp)
                                          · rw [if_neg c37] at H
                                            exact absurd H (by simp)
                                        · rw [if_neg c35] at H
                                          have c35b0 : decide (0 < x10_4) = false := decide_eq_false c35
                                          clear c35
                                          have H' := Aside0.mk H
                                          clear H
                                          obtain ⟨Ao42, co42, eo42⟩ := Kd.R_slice HO_8.out
                                          subst eo42
                                          have p235 : 0 ≤ (x10_4 : Int) := of_decide_eq_true (by first | (with_reducible assumption) | assumption)
                                          have q235 : x10_4 < (t231.length : Int) := of_decide_eq_true (by first | (with_reducible assumption) | assumption)
                                          obtain ⟨ad235, e235, hx235_0⟩ := Kd.at_int (Kd.R_reads' HO_8.out).2.2 x10_4 p235 q235
                                          cases e235
                                          replace p235 := eq_true p235
                                          replace q235 := eq_true q235
                                          have p236 : 0 ≤ (x10_4 : Int) := of_decide_eq_true (by first | (with_reducible assumption) | assumption)
                                          have q236 : x10_4 < (t231.length : Int) := of_decide_eq_true (by first | (with_reducible assumption) | assumption)
                                          obtain ⟨ad236, e236, hx236_0⟩ := Kd.at_int (Kd.R_reads' HO_8.out).2.2 x10_4 p236 q236
                                          obtain rfl : ad235 = ad236 := (by injection e236)
                                          replace p236 := eq_true p236
                                          replace q236 := eq_true q236
                                          have p237 : 0 ≤ (x10_4 : Int) := of_decide_eq_true (by first | (with_reducible assumption) | assumption)
                                          have q237 : x10_4 < (t231.length : Int) := of_decide_eq_true (by first | (with_reducible assumption) | assumption)
                                          obtain ⟨ad237, e237, hx237_0⟩ := Kd.at_int (Kd.R_reads' HO_8.out).2.2 x10_4 p237 q237
                                          obtain rfl : ad235 = ad237 := (by injection e237)
                                          replace p237 := eq_true p237
                                          replace q237 := eq_true q237
                                          have p33 : 0 ≤ ((rd t231 x10_4) : Int) := of_decide_eq_true (by first | (with_reducible assumption) | assumption)
                                          have q33 : (rd t231 x10_4) < (x3_1.size : Int) := of_decide_eq_true (by first | (with_reducible assumption) | assumption)
                                          have hx33 := bt_at x3_1 (rd t231 x10_4)
                                          replace p33 := eq_true p33
                                          replace q33 := eq_true q33
                                          go_wp2
                                          repeat (go_quiet (fail); try go_wp2)
                                          go_roundg k4
                                          case measure => have := HK1.out; have := HJ4.out; have := HJ17.out; have := HK4.out; omega
                                          case rel => exact ⟨(wrap64 (x10_4 + 1)), (by first | rfl | (simp; done) | (simp [*]; done)), H', ⟨by have := HK1.out; have := HJ4.out; have := HJ17.out; have := HK4.out; omega⟩, ⟨by (with_reducible repeat (first | apply Kd.R_alloc | apply Kd.R_drewN | apply Kd.R_drew)); exact HO_8.out⟩, ⟨by repeat (first | (with_reducible first | exact HB.out | apply below_alloc | apply pw_below_drewN | apply below_drew1) | exact HB.out)⟩⟩
                                      · rw [if_neg c34] at H
                                        have c34b0 : ((bt x3_1 (rd t231 x10_4)) == 92) = false := beq_eq_false_iff_ne.mpr c34
                                        have c34b1 : ((bt x3_1 (rd t231 x10_4)) != 92) = true := bne_iff_ne.mpr c34
                                        obtain rfl := Option.some.inj H
                                        obtain ⟨Ao43, co43, eo43⟩ := Kd.R_slice HO_8.out
                                        subst eo43
                                        have p235 : 0 ≤ (x10_4 : Int) := of_decide_eq_true (by first | (with_reducible assumption) | assumption)
                                        have q235 : x10_4 < (t231.length : Int) := of_decide_eq_true (by first | (with_reducible assumption) | assumption)
                                        obtain ⟨ad235, e235, hx235_0⟩ := Kd.at_int (Kd.R_reads' HO_8.out).2.2 x10_4 p235 q235
                                        cases e235
                                        replace p235 := eq_true p235
                                        replace q235 := eq_true q235
                                        have p236 : 0 ≤ (x10_4 : Int) := of_decide_eq_true (by first | (with_reducible assumption) | assumption)
                                        have q236 : x10_4 < (t231.length : Int) := of_decide_eq_true (by first | (with_reducible assumption) | assumption)
                                        obtain ⟨ad236, e236, hx236_0⟩ := Kd.at_int (Kd.R_reads' HO_8.out).2.2 x10_4 p236 q236
                                        obtain rfl : ad235 = ad236 := (by injection e236)
                                        replace p236 := eq_true p236
                                        replace q236 := eq_true q236
                                        have p237 : 0 ≤ (x10_4 : Int) := of_decide_eq_true (by first | (with_reducible assumption) | assumption)
                                        have q237 : x10_4 < (t231.length : Int) := of_decide_eq_true (by first | (with_reducible assumption) | assumption)
                                        obtain ⟨ad237, e237, hx237_0⟩ := Kd.at_int (Kd.R_reads' HO_8.out).2.2 x10_4 p237 q237
                                        obtain rfl : ad235 = ad237 := (by injection e237)
                                        replace p237 := eq_true p237
                                        replace q237 := eq_true q237
                                        have p33 : 0 ≤ ((rd t231 x10_4) : Int) := of_decide_eq_true (by first | (with_reducible assumption) | assumption)
                                        have q33 : (rd t231 x10_4) < (x3_1.size : Int) := of_decide_eq_true (by first | (with_reducible assumption) | assumption)
                                        have hx33 := bt_at x3_1 (rd t231 x10_4)
                                        replace p33 := eq_true p33
                                        replace q33 := eq_true q33
                                        go_wp2
                                        repeat (go_quiet (fail); try go_wp2)
                                        go_ret
                                        exact ⟨by first | rfl | (simp [errW_none, errW_some] <;> rfl) | (simp [*, errW_none, errW_some] <;> rfl), by repeat (first | (with_reducible first | exact HB.out | apply below_alloc | apply pw_below_drewN | apply below_drew1) | exact HB.out)⟩
                                    · rw [if_neg c32] at H
                                      exact absurd H (by simp)
                                  · rw [if_neg c31] at H
                                    exact absurd H (by simp)
                            · rw [if_neg c26] at H
                              exact absurd H (by simp)
                          · rw [if_neg c25] at H
                            have c25b0 : decide (x10_4 < (t231.length : Int)) = false := decide_eq_false c25
                            clear c25
                            obtain rfl := Option.some.inj H
                            obtain ⟨Ao44, co44, eo44⟩ := Kd.R_slice HO_8.out
                            subst eo44
                            go_wp2
                            repeat (go_quiet (fail); try go_wp2)
                            go_ret
                            exact ⟨by first | rfl | (simp [errW_none, errW_some] <;> rfl) | (simp [*, errW_none, errW_some] <;> rfl), by repeat (first | (with_reducible first | exact HB.out | apply below_alloc | apply pw_below_drewN | apply below_drew1) | exact HB.out)⟩
              · rw [if_neg c16] at H
                exact absurd H (by simp)
  · replace c3 := Bool.eq_false_iff.mpr c3
    subst c3
    have H1 : (some false) = some r := by rw [if_neg (show ¬ (false = true) by decide)] at H; exact H
    clear H
    have H := H1
    clear H1
    obtain rfl := Option.some.inj H
    go_enter Try.func5, Try.ntmps5
    go_wp2_with (first | (go_at_call 9; (with_reducible refine (correctorlaw7_known.calls k  false _ A2.out).mono ?_); rintro e w45 ⟨rfl, hb⟩; have n0_ := Aside0.mk (below_step (by repeat (first | (with_reducible first | exact HB.out | apply below_alloc | apply pw_below_drewN | apply below_drew1) | exact HB.out)) hb); clear HB; have HB := n0_; clear n0_; (try clear hb); (try clear hb2); (try clear hk); (try clear hi)))
    repeat (go_quiet (first | (go_at_call 9; (with_reducible refine (correctorlaw7_known.calls k  false _ A2.out).mono ?_); rintro e w45 ⟨rfl, hb⟩; have n0_ := Aside0.mk (below_step (by repeat (first | (with_reducible first | exact HB.out | apply below_alloc | apply pw_below_drewN | apply below_drew1) | exact HB.out)) hb); clear HB; have HB := n0_; clear n0_; (try clear hb); (try clear hb2); (try clear hk); (try clear hi))); try go_wp2_with (first | (go_at_call 9; (with_reducible refine (correctorlaw7_known.calls k  false _ A2.out).mono ?_); rintro e w45 ⟨rfl, hb⟩; have n0_ := Aside0.mk (below_step (by repeat (first | (with_reducible first | exact HB.out | apply below_alloc | apply pw_below_drewN | apply below_drew1) | exact HB.out)) hb); clear HB; have HB := n0_; clear n0_; (try clear hb); (try clear hb2); (try clear hk); (try clear hi))))
    go_ret
    exact ⟨by first | rfl | (simp [errW_none, errW_some] <;> rfl) | (simp [*, errW_none, errW_some] <;> rfl), by repeat (first | (with_reducible first | exact HB.out | apply below_alloc | apply pw_below_drewN | apply below_drew1) | exact HB.out)⟩

/-- THE ONE PURE STATEMENT of correctorlaw7_QuoteBad: yours. -/
def correctorlaw7_QuoteBad.Pure : Prop := ∀ (l0 : List Bool), l0.length ≤ maxLen → l0.length * 1 ≤ 140737488351232 → ∃ k, correctorlaw7_QuoteBad.f k l0 = some true
theorem correctorlaw7_QuoteBad.walk (P : correctorlaw7_QuoteBad.Pure) (a0 : Option Addr) (cap0 : Nat) (l0 : List Bool) (w : World) (w0 : Kd.bool.C w a0 l0.length l0) (y0 : l0.length ≤ cap0) (m0 : l0.length ≤ maxLen) (n0 : l0.length * 1 ≤ 140737488351232) :
    Calls Try.prog 5 #[.slice a0 l0.length cap0] w fun e w' => e = .returned (.bool true) ∧ Below w.heap.size w w' := by
  obtain ⟨k, h⟩ := P l0 m0 n0
  refine (correctorlaw7_QuoteBad.calls k _ _ l0 true w w0 y0 h).mono ?_
  rintro e w' ⟨rfl, hd⟩
  exact ⟨rfl, hd⟩

end Go.Proofs.Ytabdoommjdgogaa.Q
