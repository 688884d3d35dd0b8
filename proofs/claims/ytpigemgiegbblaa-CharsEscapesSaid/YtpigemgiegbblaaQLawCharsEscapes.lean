/- Proved here, in the forms of the print's contracts: what each Go function answers, and the rows of the laws over it; by a program and by hand. -/
import Derived.Test.YtpigemgiegbblaaQ0
import Derived.Test.YtpigemgiegbblaaQchars
import Derived.Test.YtpigemgiegbblaaQcorrectorlaw5
import Derived.Test.YtpigemgiegbblaaQcorrectorref5
namespace Go.Proofs.Ytpigemgiegbblaa.Q
open Go.RowKit Go.Proofs.YtpigemgiegbblaaW.PrintWords Go.Proofs.YtpigemgiegbblaaW.PrintLast Go.Proofs.YtpigemgiegbblaaW.PrintMore
attribute [local go_sem] max2_int min2_int max_two min_two max_three min_three max_four min_four   -- for this text's walks alone
set_option linter.unusedVariables false
set_option linter.unusedSimpArgs false

/-! ### correctorlaw5_CharsEscapes: function 3 -/
mutual
def correctorlaw5_CharsEscapes.j0 : Nat → Int → ByteArray → ByteArray → ByteArray → Bool → Option (Bool)
  | 0, _, _, _, _, _ => none
  | k + 1, x0, x1, x2, x3, x32 => if x32 = true then (some true) else (correctorlaw5_CharsEscapes.l0 k x0 x1 x2 x3 (⟨#[]⟩ : ByteArray) 0)
def correctorlaw5_CharsEscapes.l0 : Nat → Int → ByteArray → ByteArray → ByteArray → ByteArray → Int → Option (Bool)
  | 0, _, _, _, _, _, _ => none
  | k + 1, x0, x1, x2, x3, x9, x10 => if x10 < (x1.size : Int) then (if 0 ≤ x10 then (if 0 ≤ (Int.tmod (bt x1 x10) 22) then (if (Int.tmod (bt x1 x10) 22) ≤ (((Int.tmod (bt x1 x10) 22) + 1) % 256) then (if (((Int.tmod (bt x1 x10) 22) + 1) % 256) ≤ 22 then (if x9.size + ((⟨#[48, 49, 50, 51, 52, 53, 54, 55, 56, 57, 97, 98, 99, 100, 101, 102, 65, 66, 67, 68, 69, 70]⟩ : ByteArray).extract ((Int.tmod (bt x1 x10) 22) : Int).toNat ((((Int.tmod (bt x1 x10) 22) + 1) % 256) : Int).toNat).size ≤ 9223372036854775807 then (correctorlaw5_CharsEscapes.l0 k x0 x1 x2 x3 (x9 ++ ((⟨#[48, 49, 50, 51, 52, 53, 54, 55, 56, 57, 97, 98, 99, 100, 101, 102, 65, 66, 67, 68, 69, 70]⟩ : ByteArray).extract ((Int.tmod (bt x1 x10) 22) : Int).toNat ((((Int.tmod (bt x1 x10) 22) + 1) % 256) : Int).toNat)) (wrap64 (x10 + 1))) else (none)) else (none)) else (none)) else (none)) else (none)) else ((some (([x0] : List Int) : List Int)).bind fun y145 => (if 1 + (strOfNums y145).size ≤ 9223372036854775807 then (if ((⟨#[92]⟩ : ByteArray) ++ (strOfNums y145)).size + x2.size ≤ 9223372036854775807 then (if 1 + 1 ≤ 9223372036854775807 then (if ((⟨#[92]⟩ : ByteArray) ++ (⟨#[120]⟩ : ByteArray)).size + x9.size ≤ 9223372036854775807 then (if (((⟨#[92]⟩ : ByteArray) ++ (⟨#[120]⟩ : ByteArray)) ++ x9).size + x2.size ≤ 9223372036854775807 then (if ((⟨#[92]⟩ : ByteArray) ++ (⟨#[117]⟩ : ByteArray)).size + x9.size ≤ 9223372036854775807 then (if (((⟨#[92]⟩ : ByteArray) ++ (⟨#[117]⟩ : ByteArray)) ++ x9).size + x2.size ≤ 9223372036854775807 then (if ((⟨#[92]⟩ : ByteArray) ++ (⟨#[85]⟩ : ByteArray)).size + x9.size ≤ 9223372036854775807 then (if 1 + 5 ≤ 9223372036854775807 then (if ((⟨#[92]⟩ : ByteArray) ++ (⟨#[85, 48, 48, 48, 48]⟩ : ByteArray)).size + x9.size ≤ 9223372036854775807 then (if ((⟨#[92]⟩ : ByteArray) ++ (⟨#[85, 48, 48, 49, 48]⟩ : ByteArray)).size + x9.size ≤ 9223372036854775807 then (if 1 + x3.size ≤ 9223372036854775807 then (correctorlaw5_CharsEscapes.l1 k (([((⟨#[92]⟩ : ByteArray) ++ (strOfNums y145)) ++ x2, (((⟨#[92]⟩ : ByteArray) ++ (⟨#[120]⟩ : ByteArray)) ++ x9) ++ x2, (((⟨#[92]⟩ : ByteArray) ++ (⟨#[117]⟩ : ByteArray)) ++ x9) ++ x2, ((⟨#[92]⟩ : ByteArray) ++ (⟨#[85]⟩ : ByteArray)) ++ x9, ((⟨#[92]⟩ : ByteArray) ++ (⟨#[85, 48, 48, 48, 48]⟩ : ByteArray)) ++ x9, ((⟨#[92]⟩ : ByteArray) ++ (⟨#[85, 48, 48, 49, 48]⟩ : ByteArray)) ++ x9, x3, (⟨#[92]⟩ : ByteArray) ++ x3, (⟨#[92]⟩ : ByteArray)] : List ByteArray)) 0) else (none)) else (none)) else (none)) else (none)) else (none)) else (none)) else (none)) else (none)) else (none)) else (none)) else (none)) else (none)))
def correctorlaw5_CharsEscapes.l1 : Nat → List ByteArray → Int → Option (Bool)
  | 0, _, _ => none
  | k + 1, x12, x13 => if x13 < (x12.length : Int) then (if 0 ≤ x13 then ((chars_Escape.f k (rdOf ByteArray.empty x12 x13)).bind fun bt152 => ((correctorref5_Escape.f k (rdOf ByteArray.empty x12 x13)).bind fun bt155 => (if bt152.1.toList = bt155.1.toList then (if bt152.2 = bt155.2 then (correctorlaw5_CharsEscapes.l1 k x12 (wrap64 (x13 + 1))) else (some false)) else (some false)))) else (none)) else (some true)
end
def correctorlaw5_CharsEscapes.f (k : Nat) (a0 : Int) (a1 : ByteArray) (a2 : ByteArray) (a3 : ByteArray) : Option (Bool) := (correctorlaw5_known.f k).bind fun t144 => (if t144 = true then (if (a1.size : Int) > 12 then (correctorlaw5_CharsEscapes.j0 k a0 a1 a2 a3 true) else (if (a2.size : Int) > 12 then (correctorlaw5_CharsEscapes.j0 k a0 a1 a2 a3 true) else (correctorlaw5_CharsEscapes.j0 k a0 a1 a2 a3 (decide ((a3.size : Int) > 12))))) else (some false))
theorem correctorlaw5_CharsEscapes.mono_l : ∀ k, (∀ y0 y1 y2 y3 y4, LeO (correctorlaw5_CharsEscapes.j0 k y0 y1 y2 y3 y4) (correctorlaw5_CharsEscapes.j0 (k + 1) y0 y1 y2 y3 y4)) ∧ (∀ y0 y1 y2 y3 y4 y5, LeO (correctorlaw5_CharsEscapes.l0 k y0 y1 y2 y3 y4 y5) (correctorlaw5_CharsEscapes.l0 (k + 1) y0 y1 y2 y3 y4 y5)) ∧ (∀ y0 y1, LeO (correctorlaw5_CharsEscapes.l1 k y0 y1) (correctorlaw5_CharsEscapes.l1 (k + 1) y0 y1))
  | 0 => ⟨fun _ _ _ _ _ r h => by simp [correctorlaw5_CharsEscapes.j0] at h, fun _ _ _ _ _ _ r h => by simp [correctorlaw5_CharsEscapes.l0] at h, fun _ _ r h => by simp [correctorlaw5_CharsEscapes.l1] at h⟩
  | k + 1 => by
    obtain ⟨ih0, ih1, ih2⟩ := correctorlaw5_CharsEscapes.mono_l k
    refine ⟨?_, ?_, ?_⟩
    · intro y0 y1 y2 y3 y4
      unfold correctorlaw5_CharsEscapes.j0
      repeat' first
      | (with_reducible exact ih0 _ _ _ _ _)
      | (with_reducible exact ih1 _ _ _ _ _ _)
      | (with_reducible exact ih2 _ _)
      | (with_reducible exact chars_Escape.mono _ _)
      | (with_reducible exact correctorlaw5_known.mono _)
      | (with_reducible exact correctorref5_Escape.mono _ _)
      | (with_reducible exact LeO.refl _)
      | (with_reducible exact LeO.none _)
      | (with_reducible refine LeO.ite ?_ ?_)
      | (with_reducible refine LeO.bind ?_ (fun _ => ?_))
      | exact ih0 _ _ _ _ _
      | exact ih1 _ _ _ _ _ _
      | exact ih2 _ _
      | exact chars_Escape.mono _ _
      | exact correctorlaw5_known.mono _
      | exact correctorref5_Escape.mono _ _
      | exact LeO.none _
      | refine LeO.ite ?_ ?_
      | refine LeO.bind ?_ (fun _ => ?_)
    · intro y0 y1 y2 y3 y4 y5
      unfold correctorlaw5_CharsEscapes.l0
      repeat' first
      | (with_reducible exact ih0 _ _ _ _ _)
      | (with_reducible exact ih1 _ _ _ _ _ _)
      | (with_reducible exact ih2 _ _)
      | (with_reducible exact chars_Escape.mono _ _)
      | (with_reducible exact correctorlaw5_known.mono _)
      | (with_reducible exact correctorref5_Escape.mono _ _)
      | (with_reducible exact LeO.refl _)
      | (with_reducible exact LeO.none _)
      | (with_reducible refine LeO.ite ?_ ?_)
      | (with_reducible refine LeO.bind ?_ (fun _ => ?_))
      | exact ih0 _ _ _ _ _
      | exact ih1 _ _ _ _ _ _
      | exact ih2 _ _
      | exact chars_Escape.mono _ _
      | exact correctorlaw5_known.mono _
      | exact correctorref5_Escape.mono _ _
      | exact LeO.none _
      | refine LeO.ite ?_ ?_
      | refine LeO.bind ?_ (fun _ => ?_)
    · intro y0 y1
      unfold correctorlaw5_CharsEscapes.l1
      repeat' first
      | (with_reducible exact ih0 _ _ _ _ _)
      | (with_reducible exact ih1 _ _ _ _ _ _)
      | (with_reducible exact ih2 _ _)
      | (with_reducible exact chars_Escape.mono _ _)
      | (with_reducible exact correctorlaw5_known.mono _)
      | (with_reducible exact correctorref5_Escape.mono _ _)
      | (with_reducible exact LeO.refl _)
      | (with_reducible exact LeO.none _)
      | (with_reducible refine LeO.ite ?_ ?_)
      | (with_reducible refine LeO.bind ?_ (fun _ => ?_))
      | exact ih0 _ _ _ _ _
      | exact ih1 _ _ _ _ _ _
      | exact ih2 _ _
      | exact chars_Escape.mono _ _
      | exact correctorlaw5_known.mono _
      | exact correctorref5_Escape.mono _ _
      | exact LeO.none _
      | refine LeO.ite ?_ ?_
      | refine LeO.bind ?_ (fun _ => ?_)
theorem correctorlaw5_CharsEscapes.mono : ∀ a0 a1 a2 a3 k, LeO (correctorlaw5_CharsEscapes.f k a0 a1 a2 a3) (correctorlaw5_CharsEscapes.f (k + 1) a0 a1 a2 a3) := by
  intro a0 a1 a2 a3 k
  obtain ⟨ih0, ih1, ih2⟩ := correctorlaw5_CharsEscapes.mono_l k
  unfold correctorlaw5_CharsEscapes.f
  repeat' first
      | (with_reducible exact ih0 _ _ _ _ _)
      | (with_reducible exact ih1 _ _ _ _ _ _)
      | (with_reducible exact ih2 _ _)
      | (with_reducible exact chars_Escape.mono _ _)
      | (with_reducible exact correctorlaw5_known.mono _)
      | (with_reducible exact correctorref5_Escape.mono _ _)
      | (with_reducible exact LeO.refl _)
      | (with_reducible exact LeO.none _)
      | (with_reducible refine LeO.ite ?_ ?_)
      | (with_reducible refine LeO.bind ?_ (fun _ => ?_))
      | exact ih0 _ _ _ _ _
      | exact ih1 _ _ _ _ _ _
      | exact ih2 _ _
      | exact chars_Escape.mono _ _
      | exact correctorlaw5_known.mono _
      | exact correctorref5_Escape.mono _ _
      | exact LeO.none _
      | refine LeO.ite ?_ ?_
      | refine LeO.bind ?_ (fun _ => ?_)
set_option maxHeartbeats 8000000 in
set_option maxRecDepth 100000 in
theorem correctorlaw5_CharsEscapes.calls (k : Nat) (a0 : Int) (a1 : ByteArray) (a2 : ByteArray) (a3 : ByteArray) (r : Bool) (w : World) (h : correctorlaw5_CharsEscapes.f k a0 a1 a2 a3 = some r) :
    Calls Try.prog 3 #[.int .u8 a0, .string a1, .string a2, .string a3] w fun e w' => e = .returned (.bool r) ∧ Below w.heap.size w w' := by
  have HB := Aside0.mk (Below.refl w.heap.size w)
  have H : ((correctorlaw5_known.f k).bind fun t144 => (if t144 = true then (if (a1.size : Int) > 12 then (correctorlaw5_CharsEscapes.j0 k a0 a1 a2 a3 true) else (if (a2.size : Int) > 12 then (correctorlaw5_CharsEscapes.j0 k a0 a1 a2 a3 true) else (correctorlaw5_CharsEscapes.j0 k a0 a1 a2 a3 (decide ((a3.size : Int) > 12))))) else (some false))) = some r := h
  clear h
  replace H := Option.bind_eq_some_iff.mp H
  obtain ⟨t144, A50, H⟩ := H
  replace H : (if t144 = true then (if (a1.size : Int) > 12 then (correctorlaw5_CharsEscapes.j0 k a0 a1 a2 a3 true) else (if (a2.size : Int) > 12 then (correctorlaw5_CharsEscapes.j0 k a0 a1 a2 a3 true) else (correctorlaw5_CharsEscapes.j0 k a0 a1 a2 a3 (decide ((a3.size : Int) > 12))))) else (some false)) = some r := H
  have A5 := Aside0.mk A50
  clear A50
  by_cases c6 : t144 = true
  · subst c6
    have H1 : (if (a1.size : Int) > 12 then (correctorlaw5_CharsEscapes.j0 k a0 a1 a2 a3 true) else (if (a2.size : Int) > 12 then (correctorlaw5_CharsEscapes.j0 k a0 a1 a2 a3 true) else (correctorlaw5_CharsEscapes.j0 k a0 a1 a2 a3 (decide ((a3.size : Int) > 12))))) = some r := by rw [if_pos rfl] at H; exact H
    clear H
    have H := H1
    clear H1
    have HC7 := Aside0.mk H
    clear H
    go_enter Try.func3, Try.ntmps3
    go_upto_region 3 with (first | (go_at_call 13; (with_reducible refine (correctorlaw5_known.calls k  true _ A5.out).mono ?_); rintro e w8 ⟨rfl, hb⟩; have n0_ := Aside0.mk (below_step (by repeat (first | (with_reducible first | exact HB.out | apply below_alloc | apply pw_below_drewN | apply below_drew1) | exact HB.out)) hb); clear HB; have HB := n0_; clear n0_; (try clear hb); (try clear hb2); (try clear hk); (try clear hi)))
    repeat (go_quiet (first | (go_at_call 13; (with_reducible refine (correctorlaw5_known.calls k  true _ A5.out).mono ?_); rintro e w8 ⟨rfl, hb⟩; have n0_ := Aside0.mk (below_step (by repeat (first | (with_reducible first | exact HB.out | apply below_alloc | apply pw_below_drewN | apply below_drew1) | exact HB.out)) hb); clear HB; have HB := n0_; clear n0_; (try clear hb); (try clear hb2); (try clear hk); (try clear hi))); go_upto_region 3 with (first | (go_at_call 13; (with_reducible refine (correctorlaw5_known.calls k  true _ A5.out).mono ?_); rintro e w8 ⟨rfl, hb⟩; have n0_ := Aside0.mk (below_step (by repeat (first | (with_reducible first | exact HB.out | apply below_alloc | apply pw_below_drewN | apply below_drew1) | exact HB.out)) hb); clear HB; have HB := n0_; clear n0_; (try clear hb); (try clear hb2); (try clear hk); (try clear hi))))
    (try simp only [Act.put, List.setIfInBounds_toArray, List.set_cons_zero, List.set_cons_succ])
    go_cut [32] (fun v32 wc => ∃ (kq : Nat) (x32_6 : Bool), v32 = .bool x32_6 ∧ Aside0 (correctorlaw5_CharsEscapes.j0 kq a0 a1 a2 a3 x32_6 = some r) ∧ Aside0 (kq ≤ k) ∧ Aside0 (Below w.heap.size w wc))
    case first =>
      have H := HC7.out
      clear HC7
      by_cases c9 : (a1.size : Int) > 12
      · rw [if_pos c9] at H
        have c9b0 : decide (12 < (a1.size : Int)) = true := decide_eq_true c9
        have c9b1 : decide (12 < a1.size) = true := decide_eq_true (by omega)
        clear c9
        (first | rw [c9b0] | (simp only [i64_w, i32_w]; rw [c9b0]) | skip)
        have H' := Aside0.mk H
        clear H
        go_wp2
        repeat (go_quiet (fail); try go_wp2)
        go_meet
        case rel => exact ⟨_, (true), (by first | rfl | (simp; done) | (simp [*]; done)), H', ⟨by first | omega | exact Nat.le_refl _⟩, ⟨by repeat (first | (with_reducible first | exact HB.out | apply below_alloc | apply pw_below_drewN | apply below_drew1) | exact HB.out)⟩⟩
      · rw [if_neg c9] at H
        have c9b0 : decide (12 < (a1.size : Int)) = false := decide_eq_false c9
        have c9b1 : decide (12 < a1.size) = false := decide_eq_false (by omega)
        clear c9
        (first | rw [c9b0] | (simp only [i64_w, i32_w]; rw [c9b0]) | skip)
        by_cases c10 : (a2.size : Int) > 12
        · rw [if_pos c10] at H
          have c10b0 : decide (12 < (a2.size : Int)) = true := decide_eq_true c10
          have c10b1 : decide (12 < a2.size) = true := decide_eq_true (by omega)
          clear c10
          have H' := Aside0.mk H
          clear H
          go_wp2
          repeat (go_quiet (fail); try go_wp2)
          go_meet
          case rel => exact ⟨_, (true), (by first | rfl | (simp; done) | (simp [*]; done)), H', ⟨by first | omega | exact Nat.le_refl _⟩, ⟨by repeat (first | (with_reducible first | exact HB.out | apply below_alloc | apply pw_below_drewN | apply below_drew1) | exact HB.out)⟩⟩
        · rw [if_neg c10] at H
          have c10b0 : decide (12 < (a2.size : Int)) = false := decide_eq_false c10
          have c10b1 : decide (12 < a2.size) = false := decide_eq_false (by omega)
          clear c10
          have H' := Aside0.mk H
          clear H
          go_wp2
          repeat (go_quiet (fail); try go_wp2)
          go_meet
          case rel => exact ⟨_, (decide ((a3.size : Int) > 12)), (by first | rfl | (simp; done) | (simp [*]; done)), H', ⟨by first | omega | exact Nat.le_refl _⟩, ⟨by repeat (first | (with_reducible first | exact HB.out | apply below_alloc | apply pw_below_drewN | apply below_drew1) | exact HB.out)⟩⟩
    case rest =>
      clear HC7
      try clear c1
      try clear p2
      try clear c3
      try clear c6
      try clear c9
      try clear c9b0
      try clear c9b1
      try clear c10
      try clear c10b0
      try clear c10b1
      obtain ⟨kq, x32_6, rfl, HA, HJ6, HB⟩ := hcut
      cases kq with
      | zero => exact absurd HA.out (by simp [correctorlaw5_CharsEscapes.j0])
      | succ kj6 =>
        have H := HA.out
        clear HA
        simp only [correctorlaw5_CharsEscapes.j0] at H
        by_cases c11 : x32_6 = true
        · subst c11
          have H1 : (some true) = some r := by rw [if_pos rfl] at H; exact H
          clear H
          have H := H1
          clear H1
          obtain rfl := Option.some.inj H
          go_wp2
          repeat (go_quiet (fail); try go_wp2)
          go_ret
          exact ⟨by first | rfl | (simp [errW_none, errW_some] <;> rfl) | (simp [*, errW_none, errW_some] <;> rfl), by repeat (first | (with_reducible first | exact HB.out | apply below_alloc | apply pw_below_drewN | apply below_drew1) | exact HB.out)⟩
        · replace c11 := Bool.eq_false_iff.mpr c11
          subst c11
          have H1 : (correctorlaw5_CharsEscapes.l0 kj6 a0 a1 a2 a3 (⟨#[]⟩ : ByteArray) 0) = some r := by rw [if_neg (show ¬ (false = true) by decide)] at H; exact H
          clear H
          have H := H1
          clear H1
          have H' := Aside0.mk H
          clear H
          go_wp2
          repeat (go_quiet (fail); try go_wp2)
          go_loopg [9, 10] kj6 (fun kq v9 v10 w' => ∃ (x9_2 : ByteArray) (x10_2 : Int), v9 = .string x9_2 ∧ v10 = .int .i64 x10_2 ∧ Aside0 (correctorlaw5_CharsEscapes.l0 kq a0 a1 a2 a3 x9_2 x10_2 = some r) ∧ Aside0 (kq ≤ kj6) ∧ Aside0 (Below w.heap.size w w'))
          case atStart => exact ⟨((⟨#[]⟩ : ByteArray)), (0), (by first | rfl | (simp; done) | (simp [*]; done)), (by first | rfl | (simp; done) | (simp [*]; done)), H', ⟨Nat.le_refl _⟩, ⟨by repeat (first | (with_reducible first | exact HB.out | apply below_alloc | apply pw_below_drewN | apply below_drew1) | exact HB.out)⟩⟩
          case round =>
            clear H'
            try clear c1
            try clear p2
            try clear c3
            try clear c6
            try clear c9
            try clear c9b0
            try clear c9b1
            try clear c10
            try clear c10b0
            try clear c10b1
            try clear c11
            try clear p2
            obtain ⟨x9_2, x10_2, rfl, rfl, HA, HK2, HB⟩ := hrel
            cases gk with
            | zero => exact absurd HA.out (by simp [correctorlaw5_CharsEscapes.l0])
            | succ k2 =>
              have H := HA.out
              clear HA
              simp only [correctorlaw5_CharsEscapes.l0] at H
              by_cases c12 : x10_2 < (a1.size : Int)
              · rw [if_pos c12] at H
                have c12b0 : decide (x10_2 < (a1.size : Int)) = true := decide_eq_true c12
                clear c12
                by_cases c13 : 0 ≤ x10_2
                · rw [if_pos c13] at H
                  have c13b0 : decide (0 ≤ x10_2) = true := decide_eq_true c13
                  clear c13
                  obtain ⟨ji16, hji16⟩ : ∃ j_ : Int, (Int.tmod (bt a1 x10_2) 22) = j_ := ⟨_, rfl⟩
                  replace H : (if 0 ≤ (ji16) then (if (ji16) ≤ (((ji16) + 1) % 256) then (if (((ji16) + 1) % 256) ≤ 22 then (if x9_2.size + ((⟨#[48, 49, 50, 51, 52, 53, 54, 55, 56, 57, 97, 98, 99, 100, 101, 102, 65, 66, 67, 68, 69, 70]⟩ : ByteArray).extract ((ji16) : Int).toNat ((((ji16) + 1) % 256) : Int).toNat).size ≤ 9223372036854775807 then (correctorlaw5_CharsEscapes.l0 k2 a0 a1 a2 a3 (x9_2 ++ ((⟨#[48, 49, 50, 51, 52, 53, 54, 55, 56, 57, 97, 98, 99, 100, 101, 102, 65, 66, 67, 68, 69, 70]⟩ : ByteArray).extract ((ji16) : Int).toNat ((((ji16) + 1) % 256) : Int).toNat)) (wrap64 (x10_2 + 1))) else (none)) else (none)) else (none)) else (none)) = some r := by first | (rw [hji16] at H; exact H) | (simp only [hji16] at H ⊢; exact H)
                  by_cases c17 : 0 ≤ (ji16)
                  · rw [if_pos c17] at H
                    have c17b0 := eq_true c17
                    have c17b1 : decide (0 ≤ (ji16)) = true := decide_eq_true c17
                    clear c17
                    by_cases c18 : (ji16) ≤ (((ji16) + 1) % 256)
                    · rw [if_pos c18] at H
                      have c18b0 := eq_true c18
                      have c18b1 : decide ((ji16) ≤ (((ji16) + 1) % 256)) = true := decide_eq_true c18
                      (try (have c18y := eq_true (show 0 ≤ (((ji16) + 1) % 256) from Int.le_trans (of_eq_true (by assumption : (0 ≤ (ji16)) = True)) c18)))
                      by_cases c19 : (((ji16) + 1) % 256) ≤ 22
                      · rw [if_pos c19] at H
                        have c19b0 := eq_true c19
                        have c19b1 : decide ((((ji16) + 1) % 256) ≤ 22) = true := decide_eq_true c19
                        by_cases c20 : x9_2.size + ((⟨#[48, 49, 50, 51, 52, 53, 54, 55, 56, 57, 97, 98, 99, 100, 101, 102, 65, 66, 67, 68, 69, 70]⟩ : ByteArray).extract ((ji16) : Int).toNat ((((ji16) + 1) % 256) : Int).toNat).size ≤ 9223372036854775807
                        · rw [if_pos c20] at H
                          have c20b0 := eq_true c20
                          have c20b1 : decide (x9_2.size + ((⟨#[48, 49, 50, 51, 52, 53, 54, 55, 56, 57, 97, 98, 99, 100, 101, 102, 65, 66, 67, 68, 69, 70]⟩ : ByteArray).extract ((ji16) : Int).toNat ((((ji16) + 1) % 256) : Int).toNat).size ≤ 9223372036854775807) = true := decide_eq_true c20
                          try have c20b2 : (9223372036854775807 < x9_2.size + ((⟨#[48, 49, 50, 51, 52, 53, 54, 55, 56, 57, 97, 98, 99, 100, 101, 102, 65, 66, 67, 68, 69, 70]⟩ : ByteArray).extract ((ji16) : Int).toNat ((((ji16) + 1) % 256) : Int).toNat).size) = False := eq_false (Nat.not_lt.2 c20)
                          have H' := Aside0.mk H
                          clear H
                          have p14 : 0 ≤ (x10_2 : Int) := of_decide_eq_true (by first | (with_reducible assumption) | assumption)
                          have q14 : x10_2 < (a1.size : Int) := of_decide_eq_true (by first | (with_reducible assumption) | assumption)
                          have hx14 := bt_at a1 x10_2
                          replace p14 := eq_true p14
                          replace q14 := eq_true q14
                          have p15 : 0 ≤ (x10_2 : Int) := of_decide_eq_true (by first | (with_reducible assumption) | assumption)
                          have q15 : x10_2 < (a1.size : Int) := of_decide_eq_true (by first | (with_reducible assumption) | assumption)
                          have hx15 := bt_at a1 x10_2
                          replace p15 := eq_true p15
                          replace q15 := eq_true q15
                          go_wp2
                          repeat (go_quiet (fail); try go_wp2)
                          go_roundg k2
                          case measure => have := HJ6.out; have := HK2.out; omega
                          case rel => exact ⟨(x9_2 ++ ((⟨#[48, 49, 50, 51, 52, 53, 54, 55, 56, 57, 97, 98, 99, 100, 101, 102, 65, 66, 67, 68, 69, 70]⟩ : ByteArray).extract ((ji16) : Int).toNat ((((ji16) + 1) % 256) : Int).toNat)), (wrap64 (x10_2 + 1)), (by first | rfl | (simp; done) | (simp only [← hji16] <;> (first | rfl | simp)) | (simp [*]; done)), (by first | rfl | (simp; done) | (simp [*]; done)), (by first | exact H' | (simp only [hji16]; exact H') | (rw [hji16]; exact H')), ⟨by have := HJ6.out; have := HK2.out; omega⟩, ⟨by repeat (first | (with_reducible first | exact HB.out | apply below_alloc | apply pw_below_drewN | apply below_drew1) | exact HB.out)⟩⟩
                        · rw [if_neg c20] at H
                          exact absurd H (by simp)
                      · rw [if_neg c19] at H
                        exact absurd H (by simp)
                    · rw [if_neg c18] at H
                      exact absurd H (by simp)
                  · rw [if_neg c17] at H
                    exact absurd H (by simp)
                · rw [if_neg c13] at H
                  exact absurd H (by simp)
              · rw [if_neg c12] at H
                have c12b0 : decide (x10_2 < (a1.size : Int)) = false := decide_eq_false c12
                clear c12
                obtain ⟨y145, hy145⟩ : ∃ y_ : List Int, y_ = (([a0] : List Int)) := ⟨_, rfl⟩
                replace H : (if 1 + (strOfNums y145).size ≤ 9223372036854775807 then (if ((⟨#[92]⟩ : ByteArray) ++ (strOfNums y145)).size + a2.size ≤ 9223372036854775807 then (if 1 + 1 ≤ 9223372036854775807 then (if ((⟨#[92]⟩ : ByteArray) ++ (⟨#[120]⟩ : ByteArray)).size + x9_2.size ≤ 9223372036854775807 then (if (((⟨#[92]⟩ : ByteArray) ++ (⟨#[120]⟩ : ByteArray)) ++ x9_2).size + a2.size ≤ 9223372036854775807 then (if ((⟨#[92]⟩ : ByteArray) ++ (⟨#[117]⟩ : ByteArray)).size + x9_2.size ≤ 9223372036854775807 then (if (((⟨#[92]⟩ : ByteArray) ++ (⟨#[117]⟩ : ByteArray)) ++ x9_2).size + a2.size ≤ 9223372036854775807 then (if ((⟨#[92]⟩ : ByteArray) ++ (⟨#[85]⟩ : ByteArray)).size + x9_2.size ≤ 9223372036854775807 then (if 1 + 5 ≤ 9223372036854775807 then (if ((⟨#[92]⟩ : ByteArray) ++ (⟨#[85, 48, 48, 48, 48]⟩ : ByteArray)).size + x9_2.size ≤ 9223372036854775807 then (if ((⟨#[92]⟩ : ByteArray) ++ (⟨#[85, 48, 48, 49, 48]⟩ : ByteArray)).size + x9_2.size ≤ 9223372036854775807 then (if 1 + a3.size ≤ 9223372036854775807 then (correctorlaw5_CharsEscapes.l1 k2 (([((⟨#[92]⟩ : ByteArray) ++ (strOfNums y145)) ++ a2, (((⟨#[92]⟩ : ByteArray) ++ (⟨#[120]⟩ : ByteArray)) ++ x9_2) ++ a2, (((⟨#[92]⟩ : ByteArray) ++ (⟨#[117]⟩ : ByteArray)) ++ x9_2) ++ a2, ((⟨#[92]⟩ : ByteArray) ++ (⟨#[85]⟩ : ByteArray)) ++ x9_2, ((⟨#[92]⟩ : ByteArray) ++ (⟨#[85, 48, 48, 48, 48]⟩ : ByteArray)) ++ x9_2, ((⟨#[92]⟩ : ByteArray) ++ (⟨#[85, 48, 48, 49, 48]⟩ : ByteArray)) ++ x9_2, a3, (⟨#[92]⟩ : ByteArray) ++ a3, (⟨#[92]⟩ : ByteArray)] : List ByteArray)) 0) else (none)) else (none)) else (none)) else (none)) else (none)) else (none)) else (none)) else (none)) else (none)) else (none)) else (none)) else (none)) = some r := by first | (rw [hy145]; with_reducible exact H) | (have H2_ := (Option.bind_some _ _).symm.trans H; rw [hy145]; with_reducible exact H2_) | (have H2_ := (Option.bind_some _ _).symm.trans H; with_reducible exact H2_) | with_reducible exact H | (rw [hy145]; exact H) | exact H
                have Ny145 := Aside0.mk hy145
                clear hy145
                by_cases c21 : 1 + (strOfNums y145).size ≤ 9223372036854775807
                · rw [if_pos c21] at H
                  have c21b0 := eq_true c21
                  have c21b1 : decide (1 + (strOfNums y145).size ≤ 9223372036854775807) = true := decide_eq_true c21
                  try have c21b2 : (9223372036854775807 < 1 + (strOfNums y145).size) = False := eq_false (Nat.not_lt.2 c21)
                  by_cases c22 : ((⟨#[92]⟩ : ByteArray) ++ (strOfNums y145)).size + a2.size ≤ 9223372036854775807
                  · rw [if_pos c22] at H
                    have c22b0 := eq_true c22
                    have c22b1 : decide (((⟨#[92]⟩ : ByteArray) ++ (strOfNums y145)).size + a2.size ≤ 9223372036854775807) = true := decide_eq_true c22
                    try have c22b2 : (9223372036854775807 < ((⟨#[92]⟩ : ByteArray) ++ (strOfNums y145)).size + a2.size) = False := eq_false (Nat.not_lt.2 c22)
                    by_cases c23 : 1 + 1 ≤ 9223372036854775807
                    · rw [if_pos c23] at H
                      have c23b0 := eq_true c23
                      have c23b1 : decide (1 + 1 ≤ 9223372036854775807) = true := decide_eq_true c23
                      try have c23b2 : (9223372036854775807 < 1 + 1) = False := eq_false (Nat.not_lt.2 c23)
                      by_cases c24 : ((⟨#[92]⟩ : ByteArray) ++ (⟨#[120]⟩ : ByteArray)).size + x9_2.size ≤ 9223372036854775807
                      · rw [if_pos c24] at H
                        have c24b0 := eq_true c24
                        have c24b1 : decide (((⟨#[92]⟩ : ByteArray) ++ (⟨#[120]⟩ : ByteArray)).size + x9_2.size ≤ 9223372036854775807) = true := decide_eq_true c24
                        try have c24b2 : (9223372036854775807 < ((⟨#[92]⟩ : ByteArray) ++ (⟨#[120]⟩ : ByteArray)).size + x9_2.size) = False := eq_false (Nat.not_lt.2 c24)
                        by_cases c25 : (((⟨#[92]⟩ : ByteArray) ++ (⟨#[120]⟩ : ByteArray)) ++ x9_2).size + a2.size ≤ 9223372036854775807
                        · rw [if_pos c25] at H
                          have c25b0 := eq_true c25
                          have c25b1 : decide ((((⟨#[92]⟩ : ByteArray) ++ (⟨#[120]⟩ : ByteArray)) ++ x9_2).size + a2.size ≤ 9223372036854775807) = true := decide_eq_true c25
                          try have c25b2 : (9223372036854775807 < (((⟨#[92]⟩ : ByteArray) ++ (⟨#[120]⟩ : ByteArray)) ++ x9_2).size + a2.size) = False := eq_false (Nat.not_lt.2 c25)
                          by_cases c26 : ((⟨#[92]⟩ : ByteArray) ++ (⟨#[117]⟩ : ByteArray)).size + x9_2.size ≤ 9223372036854775807
                          · rw [if_pos c26] at H
                            have c26b0 := eq_true c26
                            have c26b1 : decide (((⟨#[92]⟩ : ByteArray) ++ (⟨#[117]⟩ : ByteArray)).size + x9_2.size ≤ 9223372036854775807) = true := decide_eq_true c26
                            try have c26b2 : (9223372036854775807 < ((⟨#[92]⟩ : ByteArray) ++ (⟨#[117]⟩ : ByteArray)).size + x9_2.size) = False := eq_false (Nat.not_lt.2 c26)
                            by_cases c27 : (((⟨#[92]⟩ : ByteArray) ++ (⟨#[117]⟩ : ByteArray)) ++ x9_2).size + a2.size ≤ 9223372036854775807
                            · rw [if_pos c27] at H
                              have c27b0 := eq_true c27
                              have c27b1 : decide ((((⟨#[92]⟩ : ByteArray) ++ (⟨#[117]⟩ : ByteArray)) ++ x9_2).size + a2.size ≤ 9223372036854775807) = true := decide_eq_true c27
                              try have c27b2 : (9223372036854775807 < (((⟨#[92]⟩ : ByteArray) ++ (⟨#[117]⟩ : ByteArray)) ++ x9_2).size + a2.size) = False := eq_false (Nat.not_lt.2 c27)
                              by_cases c28 : ((⟨#[92]⟩ : ByteArray) ++ (⟨#[85]⟩ : ByteArray)).size + x9_2.size ≤ 9223372036854775807
                              · rw [if_pos c28] at H
                                have c28b0 := eq_true c28
                                have c28b1 : decide (((⟨#[92]⟩ : ByteArray) ++ (⟨#[85]⟩ : ByteArray)).size + x9_2.size ≤ 9223372036854775807) = true := decide_eq_true c28
                                try have c28b2 : (9223372036854775807 < ((⟨#[92]⟩ : ByteArray) ++ (⟨#[85]⟩ : ByteArray)).size + x9_2.size) = False := eq_false (Nat.not_lt.2 c28)
                                by_cases c29 : 1 + 5 ≤ 9223372036854775807
                                · rw [if_pos c29] at H
                                  have c29b0 := eq_true c29
                                  have c29b1 : decide (1 + 5 ≤ 9223372036854775807) = true := decide_eq_true c29
                                  try have c29b2 : (9223372036854775807 < 1 + 5) = False := eq_false (Nat.not_lt.2 c29)
                                  by_cases c30 : ((⟨#[92]⟩ : ByteArray) ++ (⟨#[85, 48, 48, 48, 48]⟩ : ByteArray)).size + x9_2.size ≤ 9223372036854775807
                                  · rw [if_pos c30] at H
                                    have c30b0 := eq_true c30
                                    have c30b1 : decide (((⟨#[92]⟩ : ByteArray) ++ (⟨#[85, 48, 48, 48, 48]⟩ : ByteArray)).size + x9_2.size ≤ 9223372036854775807) = true := decide_eq_true c30
                                    try have c30b2 : (9223372036854775807 < ((⟨#[92]⟩ : ByteArray) ++ (⟨#[85, 48, 48, 48, 48]⟩ : ByteArray)).size + x9_2.size) = False := eq_false (Nat.not_lt.2 c30)
                                    by_cases c31 : ((⟨#[92]⟩ : ByteArray) ++ (⟨#[85, 48, 48, 49, 48]⟩ : ByteArray)).size + x9_2.size ≤ 9223372036854775807
                                    · rw [if_pos c31] at H
                                      have c31b0 := eq_true c31
                                      have c31b1 : decide (((⟨#[92]⟩ : ByteArray) ++ (⟨#[85, 48, 48, 49, 48]⟩ : ByteArray)).size + x9_2.size ≤ 9223372036854775807) = true := decide_eq_true c31
                                      try have c31b2 : (9223372036854775807 < ((⟨#[92]⟩ : ByteArray) ++ (⟨#[85, 48, 48, 49, 48]⟩ : ByteArray)).size + x9_2.size) = False := eq_false (Nat.not_lt.2 c31)
                                      by_cases c32 : 1 + a3.size ≤ 9223372036854775807
                                      · rw [if_pos c32] at H
                                        have c32b0 := eq_true c32
                                        have c32b1 : decide (1 + a3.size ≤ 9223372036854775807) = true := decide_eq_true c32
                                        try have c32b2 : (9223372036854775807 < 1 + a3.size) = False := eq_false (Nat.not_lt.2 c32)
                                        obtain ⟨y148, hy148⟩ : ∃ y_ : List ByteArray, y_ = (([((⟨#[92]⟩ : ByteArray) ++ (strOfNums y145)) ++ a2, (((⟨#[92]⟩ : ByteArray) ++ (⟨#[120]⟩ : ByteArray)) ++ x9_2) ++ a2, (((⟨#[92]⟩ : ByteArray) ++ (⟨#[117]⟩ : ByteArray)) ++ x9_2) ++ a2, ((⟨#[92]⟩ : ByteArray) ++ (⟨#[85]⟩ : ByteArray)) ++ x9_2, ((⟨#[92]⟩ : ByteArray) ++ (⟨#[85, 48, 48, 48, 48]⟩ : ByteArray)) ++ x9_2, ((⟨#[92]⟩ : ByteArray) ++ (⟨#[85, 48, 48, 49, 48]⟩ : ByteArray)) ++ x9_2, a3, (⟨#[92]⟩ : ByteArray) ++ a3, (⟨#[92]⟩ : ByteArray)] : List ByteArray)) := ⟨_, rfl⟩
                                        replace H : (correctorlaw5_CharsEscapes.l1 k2 y148 0) = some r := by first | (rw [hy148]; with_reducible exact H) | (have H2_ := (Option.bind_some _ _).symm.trans H; rw [hy148]; with_reducible exact H2_) | (have H2_ := (Option.bind_some _ _).symm.trans H; with_reducible exact H2_) | with_reducible exact H | (rw [hy148]; exact H) | exact H
                                        have Ny148 := Aside0.mk hy148
                                        clear hy148
                                        have H' := Aside0.mk H
                                        clear H
                                        go_wp2_with (first | ((with_reducible refine gate_dst (N := 53) rfl ?_); (try (refine gate_guard (by rfl) ?_; dsimp only)); refine Kd.R_lit (Kd.int .u8) _ 5 ?hg (N := 53) ?hd (xs := ([a0] : List Int)) (inner := [.int .u8 a0]) (ok := fun _ => True) (okp := fun _ => True) ?hr ?hp (fun _ hk => hk) trivial (Below.refl _ _) (Nat.le_refl _) (by simp) ?_; (case hd => rfl); (case hg => rfl); (case hr => first | (go_simp; done) | (go_simp; rfl)); (case hp => exact (Reps.one (show Kd.M (Kd.int .u8) _ _ _ a0 [.int .u8 a0] from rfl) (Reps.none _ _))); intro v146 w33 ho34 hb hg_ hnew_; clear hg_ hnew_; (first | rw [← Ny145.out] at ho34 | (simp only [Int.reduceToNat] at ho34; rw [← Ny145.out] at ho34)); have n0_ := Aside0.mk (Kd.R_lower ho34 (below_size (by repeat (first | (with_reducible first | exact HB.out | apply below_alloc | apply pw_below_drewN | apply below_drew1) | exact HB.out)))); have n1_ := Aside0.mk (below_step (by repeat (first | (with_reducible first | exact HB.out | apply below_alloc | apply pw_below_drewN | apply below_drew1) | exact HB.out)) hb); clear HB; have HO147 := n0_; have HB := n1_; clear n0_ n1_; clear hb ho34; have hcv35 := own_string (P := Try.prog) Try.underlying23 Try.underlying5 Try.underlying9 (Kd.own_of_R HO147.out)) | ((with_reducible refine gate_dst (N := 87) rfl ?_); (try (refine gate_guard (by rfl) ?_; dsimp only)); refine Kd.R_lit Kd.string _ 9 ?hg (N := 87) ?hd (xs := ([((⟨#[92]⟩ : ByteArray) ++ (strOfNums y145)) ++ a2, (((⟨#[92]⟩ : ByteArray) ++ (⟨#[120]⟩ : ByteArray)) ++ x9_2) ++ a2, (((⟨#[92]⟩ : ByteArray) ++ (⟨#[117]⟩ : ByteArray)) ++ x9_2) ++ a2, ((⟨#[92]⟩ : ByteArray) ++ (⟨#[85]⟩ : ByteArray)) ++ x9_2, ((⟨#[92]⟩ : ByteArray) ++ (⟨#[85, 48, 48, 48, 48]⟩ : ByteArray)) ++ x9_2, ((⟨#[92]⟩ : ByteArray) ++ (⟨#[85, 48, 48, 49, 48]⟩ : ByteArray)) ++ x9_2, a3, (⟨#[92]⟩ : ByteArray) ++ a3, (⟨#[92]⟩ : ByteArray)] : List ByteArray)) (inner := [.string (((⟨#[92]⟩ : ByteArray) ++ (strOfNums y145)) ++ a2), .string ((((⟨#[92]⟩ : ByteArray) ++ (⟨#[120]⟩ : ByteArray)) ++ x9_2) ++ a2), .string ((((⟨#[92]⟩ : ByteArray) ++ (⟨#[117]⟩ : ByteArray)) ++ x9_2) ++ a2), .string (((⟨#[92]⟩ : ByteArray) ++ (⟨#[85]⟩ : ByteArray)) ++ x9_2), .string (((⟨#[92]⟩ : ByteArray) ++ (⟨#[85, 48, 48, 48, 48]⟩ : ByteArray)) ++ x9_2), .string (((⟨#[92]⟩ : ByteArray) ++ (⟨#[85, 48, 48, 49, 48]⟩ : ByteArray)) ++ x9_2), .string a3, .string ((⟨#[92]⟩ : ByteArray) ++ a3), .string (⟨#[92]⟩ : ByteArray)]) (ok := fun _ => True) (okp := fun _ => True) ?hr ?hp (fun _ hk => hk) trivial (Below.refl _ _) (Nat.le_refl _) (by simp) ?_; (case hd => rfl); (case hg => rfl); (case hr => first | (go_simp; done) | (go_simp; rfl)); (case hp => exact (Reps.one (show Kd.M Kd.string _ _ _ (((⟨#[92]⟩ : ByteArray) ++ (strOfNums y145)) ++ a2) [.string (((⟨#[92]⟩ : ByteArray) ++ (strOfNums y145)) ++ a2)] from rfl) (Reps.one (show Kd.M Kd.string _ _ _ ((((⟨#[92]⟩ : ByteArray) ++ (⟨#[120]⟩ : ByteArray)) ++ x9_2) ++ a2) [.string ((((⟨#[92]⟩ : ByteArray) ++ (⟨#[120]⟩ : ByteArray)) ++ x9_2) ++ a2)] from rfl) (Reps.one (show Kd.M Kd.string _ _ _ ((((⟨#[92]⟩ : ByteArray) ++ (⟨#[117]⟩ : ByteArray)) ++ x9_2) ++ a2) [.string ((((⟨#[92]⟩ : ByteArray) ++ (⟨#[117]⟩ : ByteArray)) ++ x9_2) ++ a2)] from rfl) (Reps.one (show Kd.M Kd.string _ _ _ (((⟨#[92]⟩ : ByteArray) ++ (⟨#[85]⟩ : ByteArray)) ++ x9_2) [.string (((⟨#[92]⟩ : ByteArray) ++ (⟨#[85]⟩ : ByteArray)) ++ x9_2)] from rfl) (Reps.one (show Kd.M Kd.string _ _ _ (((⟨#[92]⟩ : ByteArray) ++ (⟨#[85, 48, 48, 48, 48]⟩ : ByteArray)) ++ x9_2) [.string (((⟨#[92]⟩ : ByteArray) ++ (⟨#[85, 48, 48, 48, 48]⟩ : ByteArray)) ++ x9_2)] from rfl) (Reps.one (show Kd.M Kd.string _ _ _ (((⟨#[92]⟩ : ByteArray) ++ (⟨#[85, 48, 48, 49, 48]⟩ : ByteArray)) ++ x9_2) [.string (((⟨#[92]⟩ : ByteArray) ++ (⟨#[85, 48, 48, 49, 48]⟩ : ByteArray)) ++ x9_2)] from rfl) (Reps.one (show Kd.M Kd.string _ _ _ a3 [.string a3] from rfl) (Reps.one (show Kd.M Kd.string _ _ _ ((⟨#[92]⟩ : ByteArray) ++ a3) [.string ((⟨#[92]⟩ : ByteArray) ++ a3)] from rfl) (Reps.one (show Kd.M Kd.string _ _ _ (⟨#[92]⟩ : ByteArray) [.string (⟨#[92]⟩ : ByteArray)] from rfl) (Reps.none _ _))))))))))); intro v149 w36 ho37 hb hg_ hnew_; clear hg_ hnew_; (first | rw [← Ny148.out] at ho37 | (simp only [Int.reduceToNat] at ho37; rw [← Ny148.out] at ho37)); have n0_ := Aside0.mk (Kd.R_below (by (with_reducible repeat (first | apply Kd.R_alloc | apply Kd.R_drewN | apply Kd.R_drew)); exact HO147.out) hb); have n1_ := Aside0.mk (Kd.R_lower ho37 (below_size (by repeat (first | (with_reducible first | exact HB.out | apply below_alloc | apply pw_below_drewN | apply below_drew1) | exact HB.out)))); have n2_ := Aside0.mk (below_step (by repeat (first | (with_reducible first | exact HB.out | apply below_alloc | apply pw_below_drewN | apply below_drew1) | exact HB.out)) hb); clear HO147; clear HB; have HO147 := n0_; have HO150 := n1_; have HB := n2_; clear n0_ n1_ n2_; clear hb ho37))
                                        repeat (go_quiet (first | ((with_reducible refine gate_dst (N := 53) rfl ?_); (try (refine gate_guard (by rfl) ?_; dsimp only)); refine Kd.R_lit (Kd.int .u8) _ 5 ?hg (N := 53) ?hd (xs := ([a0] : List Int)) (inner := [.int .u8 a0]) (ok := fun _ => True) (okp := fun _ => True) ?hr ?hp (fun _ hk => hk) trivial (Below.refl _ _) (Nat.le_refl _) (by simp) ?_; (case hd => rfl); (case hg => rfl); (case hr => first | (go_simp; done) | (go_simp; rfl)); (case hp => exact (Reps.one (show Kd.M (Kd.int .u8) _ _ _ a0 [.int .u8 a0] from rfl) (Reps.none _ _))); intro v146 w33 ho34 hb hg_ hnew_; clear hg_ hnew_; (first | rw [← Ny145.out] at ho34 | (simp only [Int.reduceToNat] at ho34; rw [← Ny145.out] at ho34)); have n0_ := Aside0.mk (Kd.R_lower ho34 (below_size (by repeat (first | (with_reducible first | exact HB.out | apply below_alloc | apply pw_below_drewN | apply below_drew1) | exact HB.out)))); have n1_ := Aside0.mk (below_step (by repeat (first | (with_reducible first | exact HB.out | apply below_alloc | apply pw_below_drewN | apply below_drew1) | exact HB.out)) hb); clear HB; have HO147 := n0_; have HB := n1_; clear n0_ n1_; clear hb ho34; have hcv35 := own_string (P := Try.prog) Try.underlying23 Try.underlying5 Try.underlying9 (Kd.own_of_R HO147.out)) | ((with_reducible refine gate_dst (N := 87) rfl ?_); (try (refine gate_guard (by rfl) ?_; dsimp only)); refine Kd.R_lit Kd.string _ 9 ?hg (N := 87) ?hd (xs := ([((⟨#[92]⟩ : ByteArray) ++ (strOfNums y145)) ++ a2, (((⟨#[92]⟩ : ByteArray) ++ (⟨#[120]⟩ : ByteArray)) ++ x9_2) ++ a2, (((⟨#[92]⟩ : ByteArray) ++ (⟨#[117]⟩ : ByteArray)) ++ x9_2) ++ a2, ((⟨#[92]⟩ : ByteArray) ++ (⟨#[85]⟩ : ByteArray)) ++ x9_2, ((⟨#[92]⟩ : ByteArray) ++ (⟨#[85, 48, 48, 48, 48]⟩ : ByteArray)) ++ x9_2, ((⟨#[92]⟩ : ByteArray) ++ (⟨#[85, 48, 48, 49, 48]⟩ : ByteArray)) ++ x9_2, a3, (⟨#[92]⟩ : ByteArray) ++ a3, (⟨#[92]⟩ : ByteArray)] : List ByteArray)) (inner := [.string (((⟨#[92]⟩ : ByteArray) ++ (strOfNums y145)) ++ a2), .string ((((⟨#[92]⟩ : ByteArray) ++ (⟨#[120]⟩ : ByteArray)) ++ x9_2) ++ a2), .string ((((⟨#[92]⟩ : ByteArray) ++ (⟨#[117]⟩ : ByteArray)) ++ x9_2) ++ a2), .string (((⟨#[92]⟩ : ByteArray) ++ (⟨#[85]⟩ : ByteArray)) ++ x9_2), .string (((⟨#[92]⟩ : ByteArray) ++ (⟨#[85, 48, 48, 48, 48]⟩ : ByteArray)) ++ x9_2), .string (((⟨#[92]⟩ : ByteArray) ++ (⟨#[85, 48, 48, 49, 48]⟩ : ByteArray)) ++ x9_2), .string a3, .string ((⟨#[92]⟩ : ByteArray) ++ a3), .string (⟨#[92]⟩ : ByteArray)]) (ok := fun _ => True) (okp := fun _ => True) ?hr ?hp (fun _ hk => hk) trivial (Below.refl _ _) (Nat.le_refl _) (by simp) ?_; (case hd => rfl); (case hg => rfl); (case hr => first | (go_simp; done) | (go_simp; rfl)); (case hp => exact (Reps.one (show Kd.M Kd.string _ _ _ (((⟨#[92]⟩ : ByteArray) ++ (strOfNums y145)) ++ a2) [.string (((⟨#[92]⟩ : ByteArray) ++ (strOfNums y145)) ++ a2)] from rfl) (Reps.one (show Kd.M Kd.string _ _ _ ((((⟨#[92]⟩ : ByteArray) ++ (⟨#[120]⟩ : ByteArray)) ++ x9_2) ++ a2) [.string ((((⟨#[92]⟩ : ByteArray) ++ (⟨#[120]⟩ : ByteArray)) ++ x9_2) ++ a2)] from rfl) (Reps.one (show Kd.M Kd.string _ _ _ ((((⟨#[92]⟩ : ByteArray) ++ (⟨#[117]⟩ : ByteArray)) ++ x9_2) ++ a2) [.string ((((⟨#[92]⟩ : ByteArray) ++ (⟨#[117]⟩ : ByteArray)) ++ x9_2) ++ a2)] from rfl) (Reps.one (show Kd.M Kd.string _ _ _ (((⟨#[92]⟩ : ByteArray) ++ (⟨#[85]⟩ : ByteArray)) ++ x9_2) [.string (((⟨#[92]⟩ : ByteArray) ++ (⟨#[85]⟩ : ByteArray)) ++ x9_2)] from rfl) (Reps.one (show Kd.M Kd.string _ _ _ (((⟨#[92]⟩ : ByteArray) ++ (⟨#[85, 48, 48, 48, 48]⟩ : ByteArray)) ++ x9_2) [.string (((⟨#[92]⟩ : ByteArray) ++ (⟨#[85, 48, 48, 48, 48]⟩ : ByteArray)) ++ x9_2)] from rfl) (Reps.one (show Kd.M Kd.string _ _ _ (((⟨#[92]⟩ : ByteArray) ++ (⟨#[85, 48, 48, 49, 48]⟩ : ByteArray)) ++ x9_2) [.string (((⟨#[92]⟩ : ByteArray) ++ (⟨#[85, 48, 48, 49, 48]⟩ : ByteArray)) ++ x9_2)] from rfl) (Reps.one (show Kd.M Kd.string _ _ _ a3 [.string a3] from rfl) (Reps.one (show Kd.M Kd.string _ _ _ ((⟨#[92]⟩ : ByteArray) ++ a3) [.string ((⟨#[92]⟩ : ByteArray) ++ a3)] from rfl) (Reps.one (show Kd.M Kd.string _ _ _ (⟨#[92]⟩ : ByteArray) [.string (⟨#[92]⟩ : ByteArray)] from rfl) (Reps.none _ _))))))))))); intro v149 w36 ho37 hb hg_ hnew_; clear hg_ hnew_; (first | rw [← Ny148.out] at ho37 | (simp only [Int.reduceToNat] at ho37; rw [← Ny148.out] at ho37)); have n0_ := Aside0.mk (Kd.R_below (by (with_reducible repeat (first | apply Kd.R_alloc | apply Kd.R_drewN | apply Kd.R_drew)); exact HO147.out) hb); have n1_ := Aside0.mk (Kd.R_lower ho37 (below_size (by repeat (first | (with_reducible first | exact HB.out | apply below_alloc | apply pw_below_drewN | apply below_drew1) | exact HB.out)))); have n2_ := Aside0.mk (below_step (by repeat (first | (with_reducible first | exact HB.out | apply below_alloc | apply pw_below_drewN | apply below_drew1) | exact HB.out)) hb); clear HO147; clear HB; have HO147 := n0_; have HO150 := n1_; have HB := n2_; clear n0_ n1_ n2_; clear hb ho37)); try go_wp2_with (first | ((with_reducible refine gate_dst (N := 53) rfl ?_); (try (refine gate_guard (by rfl) ?_; dsimp only)); refine Kd.R_lit (Kd.int .u8) _ 5 ?hg (N := 53) ?hd (xs := ([a0] : List Int)) (inner := [.int .u8 a0]) (ok := fun _ => True) (okp := fun _ => True) ?hr ?hp (fun _ hk => hk) trivial (Below.refl _ _) (Nat.le_refl _) (by simp) ?_; (case hd => rfl); (case hg => rfl); (case hr => first | (go_simp; done) | (go_simp; rfl)); (case hp => exact (Reps.one (show Kd.M (Kd.int .u8) _ _ _ a0 [.int .u8 a0] from rfl) (Reps.none _ _))); intro v146 w33 ho34 hb hg_ hnew_; clear hg_ hnew_; (first | rw [← Ny145.out] at ho34 | (simp only [Int.reduceToNat] at ho34; rw [← Ny145.out] at ho34)); have n0_ := Aside0.mk (Kd.R_lower ho34 (below_size (by repeat (first | (with_reducible first | exact HB.out | apply below_alloc | apply pw_below_drewN | apply below_drew1) | exact HB.out)))); have n1_ := Aside0.mk (below_step (by repeat (first | (with_reducible first | exact HB.out | apply below_alloc | apply pw_below_drewN | apply below_drew1) | exact HB.out)) hb); clear HB; have HO147 := n0_; have HB := n1_; clear n0_ n1_; clear hb ho34; have hcv35 := own_string (P := Try.prog) Try.underlying23 Try.underlying5 Try.underlying9 (Kd.own_of_R HO147.out)) | ((with_reducible refine gate_dst (N := 87) rfl ?_); (try (refine gate_guard (by rfl) ?_; dsimp only)); refine Kd.R_lit Kd.string _ 9 ?hg (N := 87) ?hd (xs := ([((⟨#[92]⟩ : ByteArray) ++ (strOfNums y145)) ++ a2, (((⟨#[92]⟩ : ByteArray) ++ (⟨#[120]⟩ : ByteArray)) ++ x9_2) ++ a2, (((⟨#[92]⟩ : ByteArray) ++ (⟨#[117]⟩ : ByteArray)) ++ x9_2) ++ a2, ((⟨#[92]⟩ : ByteArray) ++ (⟨#[85]⟩ : ByteArray)) ++ x9_2, ((⟨#[92]⟩ : ByteArray) ++ (⟨#[85, 48, 48, 48, 48]⟩ : ByteArray)) ++ x9_2, ((⟨#[92]⟩ : ByteArray) ++ (⟨#[85, 48, 48, 49, 48]⟩ : ByteArray)) ++ x9_2, a3, (⟨#[92]⟩ : ByteArray) ++ a3, (⟨#[92]⟩ : ByteArray)] : List ByteArray)) (inner := [.string (((⟨#[92]⟩ : ByteArray) ++ (strOfNums y145)) ++ a2), .string ((((⟨#[92]⟩ : ByteArray) ++ (⟨#[120]⟩ : ByteArray)) ++ x9_2) ++ a2), .string ((((⟨#[92]⟩ : ByteArray) ++ (⟨#[117]⟩ : ByteArray)) ++ x9_2) ++ a2), .string (((⟨#[92]⟩ : ByteArray) ++ (⟨#[85]⟩ : ByteArray)) ++ x9_2), .string (((⟨#[92]⟩ : ByteArray) ++ (⟨#[85, 48, 48, 48, 48]⟩ : ByteArray)) ++ x9_2), .string (((⟨#[92]⟩ : ByteArray) ++ (⟨#[85, 48, 48, 49, 48]⟩ : ByteArray)) ++ x9_2), .string a3, .string ((⟨#[92]⟩ : ByteArray) ++ a3), .string (⟨#[92]⟩ : ByteArray)]) (ok := fun _ => True) (okp := fun _ => True) ?hr ?hp (fun _ hk => hk) trivial (Below.refl _ _) (Nat.le_refl _) (by simp) ?_; (case hd => rfl); (case hg => rfl); (case hr => first | (go_simp; done) | (go_simp; rfl)); (case hp => exact (Reps.one (show Kd.M Kd.string _ _ _ (((⟨#[92]⟩ : ByteArray) ++ (strOfNums y145)) ++ a2) [.string (((⟨#[92]⟩ : ByteArray) ++ (strOfNums y145)) ++ a2)] from rfl) (Reps.one (show Kd.M Kd.string _ _ _ ((((⟨#[92]⟩ : ByteArray) ++ (⟨#[120]⟩ : ByteArray)) ++ x9_2) ++ a2) [.string ((((⟨#[92]⟩ : ByteArray) ++ (⟨#[120]⟩ : ByteArray)) ++ x9_2) ++ a2)] from rfl) (Reps.one (show Kd.M Kd.string _ _ _ ((((⟨#[92]⟩ : ByteArray) ++ (⟨#[117]⟩ : ByteArray)) ++ x9_2) ++ a2) [.string ((((⟨#[92]⟩ : ByteArray) ++ (⟨#[117]⟩ : ByteArray)) ++ x9_2) ++ a2)] from rfl) (Reps.one (show Kd.M Kd.string _ _ _ (((⟨#[92]⟩ : ByteArray) ++ (⟨#[85]⟩ : ByteArray)) ++ x9_2) [.string (((⟨#[92]⟩ : ByteArray) ++ (⟨#[85]⟩ : ByteArray)) ++ x9_2)] from rfl) (Reps.one (show Kd.M Kd.string _ _ _ (((⟨#[92]⟩ : ByteArray) ++ (⟨#[85, 48, 48, 48, 48]⟩ : ByteArray)) ++ x9_2) [.string (((⟨#[92]⟩ : ByteArray) ++ (⟨#[85, 48, 48, 48, 48]⟩ : ByteArray)) ++ x9_2)] from rfl) (Reps.one (show Kd.M Kd.string _ _ _ (((⟨#[92]⟩ : ByteArray) ++ (⟨#[85, 48, 48, 49, 48]⟩ : ByteArray)) ++ x9_2) [.string (((⟨#[92]⟩ : ByteArray) ++ (⟨#[85, 48, 48, 49, 48]⟩ : ByteArray)) ++ x9_2)] from rfl) (Reps.one (show Kd.M Kd.string _ _ _ a3 [.string a3] from rfl) (Reps.one (show Kd.M Kd.string _ _ _ ((⟨#[92]⟩ : ByteArray) ++ a3) [.string ((⟨#[92]⟩ : ByteArray) ++ a3)] from rfl) (Reps.one (show Kd.M Kd.string _ _ _ (⟨#[92]⟩ : ByteArray) [.string (⟨#[92]⟩ : ByteArray)] from rfl) (Reps.none _ _))))))))))); intro v149 w36 ho37 hb hg_ hnew_; clear hg_ hnew_; (first | rw [← Ny148.out] at ho37 | (simp only [Int.reduceToNat] at ho37; rw [← Ny148.out] at ho37)); have n0_ := Aside0.mk (Kd.R_below (by (with_reducible repeat (first | apply Kd.R_alloc | apply Kd.R_drewN | apply Kd.R_drew)); exact HO147.out) hb); have n1_ := Aside0.mk (Kd.R_lower ho37 (below_size (by repeat (first | (with_reducible first | exact HB.out | apply below_alloc | apply pw_below_drewN | apply below_drew1) | exact HB.out)))); have n2_ := Aside0.mk (below_step (by repeat (first | (with_reducible first | exact HB.out | apply below_alloc | apply pw_below_drewN | apply below_drew1) | exact HB.out)) hb); clear HO147; clear HB; have HO147 := n0_; have HO150 := n1_; have HB := n2_; clear n0_ n1_ n2_; clear hb ho37)))
                                        go_loopg [13] k2 (fun kq v13 w' => ∃ (x13_3 : Int), v13 = .int .i64 x13_3 ∧ Aside0 (correctorlaw5_CharsEscapes.l1 kq y148 x13_3 = some r) ∧ Aside0 (kq ≤ k2) ∧ Aside0 (Kd.R Kd.string 9 w' w.heap.size (fun _ => True) v149 y148) ∧ Aside0 (Below w.heap.size w w'))
                                        case atStart => exact ⟨(0), (by first | rfl | (simp; done) | (simp [*]; done)), H', ⟨Nat.le_refl _⟩, ⟨by (with_reducible repeat (first | apply Kd.R_alloc | apply Kd.R_drewN | apply Kd.R_drew)); exact HO150.out⟩, ⟨by repeat (first | (with_reducible first | exact HB.out | apply below_alloc | apply pw_below_drewN | apply below_drew1) | exact HB.out)⟩⟩
                                        case round =>
                                          clear H'
                                          try clear c1
                                          try clear p1
                                          try clear q1
                                          try clear hx1
                                          try clear c2
                                          try clear p2
                                          try clear c3
                                          try clear hcv3
                                          try clear c6
                                          try clear p6
                                          try clear c9
                                          try clear c9b0
                                          try clear c9b1
                                          try clear c10
                                          try clear c10b0
                                          try clear c10b1
                                          try clear c11
                                          try clear c12
                                          try clear c12b0
                                          try clear c13
                                          try clear c13b0
                                          try clear p14
                                          try clear q14
                                          try clear hx14
                                          try clear p15
                                          try clear q15
                                          try clear hx15
                                          try clear c17
                                          try clear c17b0
                                          try clear c17b1
                                          try clear c18
                                          try clear c18b0
                                          try clear c18b1
                                          try clear c19
                                          try clear c19b0
                                          try clear c19b1
                                          try clear c20
                                          try clear c20b0
                                          try clear c20b1
                                          try clear c20b2
                                          try clear c21
                                          try clear c21b0
                                          try clear c21b1
                                          try clear c21b2
                                          try clear c22
                                          try clear c22b0
                                          try clear c22b1
                                          try clear c22b2
                                          try clear c23
                                          try clear c23b0
                                          try clear c23b1
                                          try clear c23b2
                                          try clear c24
                                          try clear c24b0
                                          try clear c24b1
                                          try clear c24b2
                                          try clear c25
                                          try clear c25b0
                                          try clear c25b1
                                          try clear c25b2
                                          try clear c26
                                          try clear c26b0
                                          try clear c26b1
                                          try clear c26b2
                                          try clear c27
                                          try clear c27b0
                                          try clear c27b1
                                          try clear c27b2
                                          try clear c28
                                          try clear c28b0
                                          try clear c28b1
                                          try clear c28b2
                                          try clear c29
                                          try clear c29b0
                                          try clear c29b1
                                          try clear c29b2
                                          try clear c30
                                          try clear c30b0
                                          try clear c30b1
                                          try clear c30b2
                                          try clear c31
                                          try clear c31b0
                                          try clear c31b1
                                          try clear c31b2
                                          try clear c32
                                          try clear c32b0
                                          try clear c32b1
                                          try clear c32b2
                                          try clear hcv35
                                          try clear p14
                                          try clear p15
                                          try clear p2
                                          try clear q14
                                          try clear q15
                                          obtain ⟨x13_3, rfl, HA, HK3, HO_12, HB⟩ := hrel
                                          cases gk with
                                          | zero => exact absurd HA.out (by simp [correctorlaw5_CharsEscapes.l1])
                                          | succ k3 =>
                                            have H := HA.out
                                            clear HA
                                            simp only [correctorlaw5_CharsEscapes.l1] at H
                                            by_cases c38 : x13_3 < (y148.length : Int)
                                            · rw [if_pos c38] at H
                                              have c38b0 : decide (x13_3 < (y148.length : Int)) = true := decide_eq_true c38
                                              clear c38
                                              by_cases c39 : 0 ≤ x13_3
                                              · rw [if_pos c39] at H
                                                have c39b0 : decide (0 ≤ x13_3) = true := decide_eq_true c39
                                                clear c39
                                                replace H := Option.bind_eq_some_iff.mp H
                                                obtain ⟨⟨t152, t153⟩, A400, H⟩ := H
                                                replace H : ((correctorref5_Escape.f k3 (rdOf ByteArray.empty y148 x13_3)).bind fun bt155 => (if t152.toList = bt155.1.toList then (if t153 = bt155.2 then (correctorlaw5_CharsEscapes.l1 k3 y148 (wrap64 (x13_3 + 1))) else (some false)) else (some false))) = some r := H
                                                have A40 := Aside0.mk A400
                                                clear A400
                                                replace H := Option.bind_eq_some_iff.mp H
                                                obtain ⟨⟨t155, t156⟩, A410, H⟩ := H
                                                replace H : (if t152.toList = t155.toList then (if t153 = t156 then (correctorlaw5_CharsEscapes.l1 k3 y148 (wrap64 (x13_3 + 1))) else (some false)) else (some false)) = some r := H
                                                have A41 := Aside0.mk A410
                                                clear A410
                                                by_cases c42 : t152.toList = t155.toList
                                                · rw [if_pos c42] at H
                                                  have c42b0 : (t152.toList == t155.toList) = true := beq_iff_eq.mpr c42
                                                  have c42b1 : (t152.toList != t155.toList) = false := bne_eq_false_iff_eq.mpr c42
                                                  clear c42
                                                  by_cases c43 : t153 = t156
                                                  · rw [if_pos c43] at H
                                                    have c43b0 : (t153 == t156) = true := beq_iff_eq.mpr c43
                                                    have c43b1 : (t153 != t156) = false := bne_eq_false_iff_eq.mpr c43
                                                    clear c43
                                                    have H' := Aside0.mk H
                                                    clear H
                                                    obtain ⟨Ao44, co44, eo44⟩ := Kd.R_slice HO_12.out
                                                    subst eo44
                                                    have p151 : 0 ≤ (x13_3 : Int) := of_decide_eq_true (by first | (with_reducible assumption) | assumption)
                                                    have q151 : x13_3 < (y148.length : Int) := of_decide_eq_true (by first | (with_reducible assumption) | assumption)
                                                    obtain ⟨ad151, e151, hx151_0⟩ := Kd.at_string (Kd.R_reads' HO_12.out).2.2 x13_3 p151 q151
                                                    cases e151
                                                    replace p151 := eq_true p151
                                                    replace q151 := eq_true q151
                                                    go_wp2_with (first | (go_at_call 14; (with_reducible refine (chars_Escape.calls k3 (rdOf ByteArray.empty y148 x13_3) t152 t153 _ A40.out).mono ?_); rintro e w45 ⟨rfl, hb⟩; have n0_ := Aside0.mk (Kd.R_below (by (with_reducible repeat (first | apply Kd.R_alloc | apply Kd.R_drewN | apply Kd.R_drew)); exact HO_12.out) hb); have n1_ := Aside0.mk (below_step (by repeat (first | (with_reducible first | exact HB.out | apply below_alloc | apply pw_below_drewN | apply below_drew1) | exact HB.out)) hb); clear HO_12; clear HB; have HO_12 := n0_; have HB := n1_; clear n0_ n1_; (try clear hb); (try clear hb2); (try clear hk); (try clear hi); have p154 : 0 ≤ (x13_3 : Int) := of_decide_eq_true (by first | (with_reducible assumption) | assumption); have q154 : x13_3 < (y148.length : Int) := of_decide_eq_true (by first | (with_reducible assumption) | assumption); obtain ⟨ad154, e154, hx154_0⟩ := Kd.at_string (Kd.R_reads' HO_12.out).2.2 x13_3 p154 q154; obtain rfl : ad151 = ad154 := (by injection e154); replace p154 := eq_true p154; replace q154 := eq_true q154) | (go_at_call 15; (with_reducible refine (correctorref5_Escape.calls k3 (rdOf ByteArray.empty y148 x13_3) t155 t156 _ A41.out).mono ?_); rintro e w46 ⟨rfl, hb⟩; have n0_ := Aside0.mk (Kd.R_below (by (with_reducible repeat (first | apply Kd.R_alloc | apply Kd.R_drewN | apply Kd.R_drew)); exact HO_12.out) hb); have n1_ := Aside0.mk (below_step (by repeat (first | (with_reducible first | exact HB.out | apply below_alloc | apply pw_below_drewN | apply below_drew1) | exact HB.out)) hb); clear HO_12; clear HB; have HO_12 := n0_; have HB := n1_; clear n0_ n1_; (try clear hb); (try clear hb2); (try clear hk); (try clear hi)))
                                                    repeat (go_quiet (first | (go_at_call 14; (with_reducible refine (chars_Escape.calls k3 (rdOf ByteArray.empty y148 x13_3) t152 t153 _ A40.out).mono ?_); rintro e w45 ⟨rfl, hb⟩; have n0_ := Aside0.mk (Kd.R_below (by (with_reducible repeat (first | apply Kd.R_alloc | apply Kd.R_drewN | apply Kd.R_drew)); exact HO_12.out) hb); have n1_ := Aside0.mk (below_step (by repeat (first | (with_reducible first | exact HB.out | apply below_alloc | apply pw_below_drewN | apply below_drew1) | exact HB.out)) hb); clear HO_12; clear HB; have HO_12 := n0_; have HB := n1_; clear n0_ n1_; (try clear hb); (try clear hb2); (try clear hk); (try clear hi); have p154 : 0 ≤ (x13_3 : Int) := of_decide_eq_true (by first | (with_reducible assumption) | assumption); have q154 : x13_3 < (y148.length : Int) := of_decide_eq_true (by first | (with_reducible assumption) | assumption); obtain ⟨ad154, e154, hx154_0⟩ := Kd.at_string (Kd.R_reads' HO_12.out).2.2 x13_3 p154 q154; obtain rfl : ad151 = ad154 := (by injection e154); replace p154 := eq_true p154; replace q154 := eq_true q154) | (go_at_call 15; (with_reducible refine (correctorref5_Escape.calls k3 (rdOf ByteArray.empty y148 x13_3) t155 t156 _ A41.out).mono ?_); rintro e w46 ⟨rfl, hb⟩; have n0_ := Aside0.mk (Kd.R_below (by (with_reducible repeat (first | apply Kd.R_alloc | apply Kd.R_drewN | apply Kd.R_drew)); exact HO_12.out) hb); have n1_ := Aside0.mk (below_step (by repeat (first | (with_reducible first | exact HB.out | apply below_alloc | apply pw_below_drewN | apply below_drew1) | exact HB.out)) hb); clear HO_12; clear HB; have HO_12 := n0_; have HB := n1_; clear n0_ n1_; (try clear hb); (try clear hb2); (try clear hk); (try clear hi))); try go_wp2_with (first | (go_at_call 14; (with_reducible refine (chars_Escape.calls k3 (rdOf ByteArray.empty y148 x13_3) t152 t153 _ A40.out).mono ?_); rintro e w45 ⟨rfl, hb⟩; have n0_ := Aside0.mk (Kd.R_below (by (with_reducible repeat (first | apply Kd.R_alloc | apply Kd.R_drewN | apply Kd.R_drew)); exact HO_12.out) hb); have n1_ := Aside0.mk (below_step (by repeat (first | (with_reducible first | exact HB.out | apply below_alloc | apply pw_below_drewN | apply below_drew1) | exact HB.out)) hb); clear HO_12; clear HB; have HO_12 := n0_; have HB := n1_; clear n0_ n1_; (try clear hb); (try clear hb2); (try clear hk); (try clear hi); have p154 : 0 ≤ (x13_3 : Int) := of_decide_eq_true (by first | (with_reducible assumption) | assumption); have q154 : x13_3 < (y148.length : Int) := of_decide_eq_true (by first | (with_reducible assumption) | assumption); obtain ⟨ad154, e154, hx154_0⟩ := Kd.at_string (Kd.R_reads' HO_12.out).2.2 x13_3 p154 q154; obtain rfl : ad151 = ad154 := (by injection e154); replace p154 := eq_true p154; replace q154 := eq_true q154) | (go_at_call 15; (with_reducible refine (correctorref5_Escape.calls k3 (rdOf ByteArray.empty y148 x13_3) t155 t156 _ A41.out).mono ?_); rintro e w46 ⟨rfl, hb⟩; have n0_ := Aside0.mk (Kd.R_below (by (with_reducible repeat (first | apply Kd.R_alloc | apply Kd.R_drewN | apply Kd.R_drew)); exact HO_12.out) hb); have n1_ := Aside0.mk (below_step (by repeat (first | (with_reducible first | exact HB.out | apply below_alloc | apply pw_below_drewN | apply below_drew1) | exact HB.out)) hb); clear HO_12; clear HB; have HO_12 := n0_; have HB := n1_; clear n0_ n1_; (try clear hb); (try clear hb2); (try clear hk); (try clear hi))))
                                                    go_roundg k3
                                                    case measure => have := HJ6.out; have := HK2.out; have := HK3.out; omega
                                                    case rel => exact ⟨(wrap64 (x13_3 + 1)), (by first | rfl | (simp; done) | (simp [*]; done)), H', ⟨by have := HJ6.out; have := HK2.out; have := HK3.out; omega⟩, ⟨by (with_reducible repeat (first | apply Kd.R_alloc | apply Kd.R_drewN | apply Kd.R_drew)); exact HO_12.out⟩, ⟨by repeat (first | (with_reducible first | exact HB.out | apply below_alloc | apply pw_below_drewN | apply below_drew1) | exact HB.out)⟩⟩
                                                  · rw [if_neg c43] at H
                                                    have c43b0 : (t153 == t156) = false := beq_eq_false_iff_ne.mpr c43
                                                    have c43b1 : (t153 != t156) = true := bne_iff_ne.mpr c43
                                                    obtain rfl := Option.some.inj H
                                                    obtain ⟨Ao47, co47, eo47⟩ := Kd.R_slice HO_12.out
                                                    subst eo47
                                                    have p151 : 0 ≤ (x13_3 : Int) := of_decide_eq_true (by first | (with_reducible assumption) | assumption)
                                                    have q151 : x13_3 < (y148.length : Int) := of_decide_eq_true (by first | (with_reducible assumption) | assumption)
                                                    obtain ⟨ad151, e151, hx151_0⟩ := Kd.at_string (Kd.R_reads' HO_12.out).2.2 x13_3 p151 q151
                                                    cases e151
                                                    replace p151 := eq_true p151
                                                    replace q151 := eq_true q151
                                                    go_wp2_with (first | (go_at_call 14; (with_reducible refine (chars_Escape.calls k3 (rdOf ByteArray.empty y148 x13_3) t152 t153 _ A40.out).mono ?_); rintro e w48 ⟨rfl, hb⟩; have n0_ := Aside0.mk (Kd.R_below (by (with_reducible repeat (first | apply Kd.R_alloc | apply Kd.R_drewN | apply Kd.R_drew)); exact HO_12.out) hb); have n1_ := Aside0.mk (below_step (by repeat (first | (with_reducible first | exact HB.out | apply below_alloc | apply pw_below_drewN | apply below_drew1) | exact HB.out)) hb); clear HO_12; clear HB; have HO_12 := n0_; have HB := n1_; clear n0_ n1_; (try clear hb); (try clear hb2); (try clear hk); (try clear hi); have p154 : 0 ≤ (x13_3 : Int) := of_decide_eq_true (by first | (with_reducible assumption) | assumption); have q154 : x13_3 < (y148.length : Int) := of_decide_eq_true (by first | (with_reducible assumption) | assumption); obtain ⟨ad154, e154, hx154_0⟩ := Kd.at_string (Kd.R_reads' HO_12.out).2.2 x13_3 p154 q154; obtain rfl : ad151 = ad154 := (by injection e154); replace p154 := eq_true p154; replace q154 := eq_true q154) | (go_at_call 15; (with_reducible refine (correctorref5_Escape.calls k3 (rdOf ByteArray.empty y148 x13_3) t155 t156 _ A41.out).mono ?_); rintro e w49 ⟨rfl, hb⟩; have n0_ := Aside0.mk (Kd.R_below (by (with_reducible repeat (first | apply Kd.R_alloc | apply Kd.R_drewN | apply Kd.R_drew)); exact HO_12.out) hb); have n1_ := Aside0.mk (below_step (by repeat (first | (with_reducible first | exact HB.out | apply below_alloc | apply pw_below_drewN | apply below_drew1) | exact HB.out)) hb); clear HO_12; clear HB; have HO_12 := n0_; have HB := n1_; clear n0_ n1_; (try clear hb); (try clear hb2); (try clear hk); (try clear hi)))
                                                    repeat (go_quiet (first | (go_at_call 14; (with_reducible refine (chars_Escape.calls k3 (rdOf ByteArray.empty y148 x13_3) t152 t153 _ A40.out).mono ?_); rintro e w48 ⟨rfl, hb⟩; have n0_ := Aside0.mk (Kd.R_below (by (with_reducible repeat (first | apply Kd.R_alloc | apply Kd.R_drewN | apply Kd.R_drew)); exact HO_12.out) hb); have n1_ := Aside0.mk (below_step (by repeat (first | (with_reducible first | exact HB.out | apply below_alloc | apply pw_below_drewN | apply below_drew1) | exact HB.out)) hb); clear HO_12; clear HB; have HO_12 := n0_; have HB := n1_; clear n0_ n1_; (try clear hb); (try clear hb2); (try clear hk); (try clear hi); have p154 : 0 ≤ (x13_3 : Int) := of_decide_eq_true (by first | (with_reducible assumption) | assumption); have q154 : x13_3 < (y148.length : Int) := of_decide_eq_true (by first | (with_reducible assumption) | assumption); obtain ⟨ad154, e154, hx154_0⟩ := Kd.at_string (Kd.R_reads' HO_12.out).2.2 x13_3 p154 q154; obtain rfl : ad151 = ad154 := (by injection e154); replace p154 := eq_true p154; replace q154 := eq_true q154) | (go_at_call 15; (with_reducible refine (correctorref5_Escape.calls k3 (rdOf ByteArray.empty y148 x13_3) t155 t156 _ A41.out).mono ?_); rintro e w49 ⟨rfl, hb⟩; have n0_ := Aside0.mk (Kd.R_below (by (with_reducible repeat (first | apply Kd.R_alloc | apply Kd.R_drewN | apply Kd.R_drew)); exact HO_12.out) hb); have n1_ := Aside0.mk (below_step (by repeat (first | (with_reducible first | exact HB.out | apply below_alloc | apply pw_below_drewN | apply below_drew1) | exact HB.out)) hb); clear HO_12; clear HB; have HO_12 := n0_; have HB := n1_; clear n0_ n1_; (try clear hb); (try clear hb2); (try clear hk); (try clear hi))); try go_wp2_with (first | (go_at_call 14; (with_reducible refine (chars_Escape.calls k3 (rdOf ByteArray.empty y148 x13_3) t152 t153 _ A40.out).mono ?_); rintro e w48 ⟨rfl, hb⟩; have n0_ := Aside0.mk (Kd.R_below (by (with_reducible repeat (first | apply Kd.R_alloc | apply Kd.R_drewN | apply Kd.R_drew)); exact HO_12.out) hb); have n1_ := Aside0.mk (below_step (by repeat (first | (with_reducible first | exact HB.out | apply below_alloc | apply pw_below_drewN | apply below_drew1) | exact HB.out)) hb); clear HO_12; clear HB; have HO_12 := n0_; have HB := n1_; clear n0_ n1_; (try clear hb); (try clear hb2); (try clear hk); (try clear hi); have p154 : 0 ≤ (x13_3 : Int) := of_decide_eq_true (by first | (with_reducible assumption) | assumption); have q154 : x13_3 < (y148.length : Int) := of_decide_eq_true (by first | (with_reducible assumption) | assumption); obtain ⟨ad154, e154, hx154_0⟩ := Kd.at_string (Kd.R_reads' HO_12.out).2.2 x13_3 p154 q154; obtain rfl : ad151 = ad154 := (by injection e154); replace p154 := eq_true p154; replace q154 := eq_true q154) | (go_at_call 15; (with_reducible refine (correctorref5_Escape.calls k3 (rdOf ByteArray.empty y148 x13_3) t155 t156 _ A41.out).mono ?_); rintro e w49 ⟨rfl, hb⟩; have n0_ := Aside0.mk (Kd.R_below (by (with_reducible repeat (first | apply Kd.R_alloc | apply Kd.R_drewN | apply Kd.R_drew)); exact HO_12.out) hb); have n1_ := Aside0.mk (below_step (by repeat (first | (with_reducible first | exact HB.out | apply below_alloc | apply pw_below_drewN | apply below_drew1) | exact HB.out)) hb); clear HO_12; clear HB; have HO_12 := n0_; have HB := n1_; clear n0_ n1_; (try clear hb); (try clear hb2); (try clear hk); (try clear hi))))
                                                    go_ret
                                                    exact ⟨by first | rfl | (simp [errW_none, errW_some] <;> rfl) | (simp [*, errW_none, errW_some] <;> rfl), by repeat (first | (with_reducible first | exact HB.out | apply below_alloc | apply pw_below_drewN | apply below_drew1) | exact HB.out)⟩
                                                · rw [if_neg c42] at H
                                                  have c42b0 : (t152.toList == t155.toList) = false := beq_eq_false_iff_ne.mpr c42
                                                  have c42b1 : (t152.toList != t155.toList) = true := bne_iff_ne.mpr c42
                                                  obtain rfl := Option.some.inj H
                                                  obtain ⟨Ao50, co50, eo50⟩ := Kd.R_slice HO_12.out
                                                  subst eo50
                                                  have p151 : 0 ≤ (x13_3 : Int) := of_decide_eq_true (by first | (with_reducible assumption) | assumption)
                                                  have q151 : x13_3 < (y148.length : Int) := of_decide_eq_true (by first | (with_reducible assumption) | assumption)
                                                  obtain ⟨ad151, e151, hx151_0⟩ := Kd.at_string (Kd.R_reads' HO_12.out).2.2 x13_3 p151 q151
                                                  cases e151
                                                  replace p151 := eq_true p151
                                                  replace q151 := eq_true q151
                                                  go_wp2_with (first | (go_at_call 14; (with_reducible refine (chars_Escape.calls k3 (rdOf ByteArray.empty y148 x13_3) t152 t153 _ A40.out).mono ?_); rintro e w51 ⟨rfl, hb⟩; have n0_ := Aside0.mk (Kd.R_below (by (with_reducible repeat (first | apply Kd.R_alloc | apply Kd.R_drewN | apply Kd.R_drew)); exact HO_12.out) hb); have n1_ := Aside0.mk (below_step (by repeat (first | (with_reducible first | exact HB.out | apply below_alloc | apply pw_below_drewN | apply below_drew1) | exact HB.out)) hb); clear HO_12; clear HB; have HO_12 := n0_; have HB := n1_; clear n0_ n1_; (try clear hb); (try clear hb2); (try clear hk); (try clear hi); have p154 : 0 ≤ (x13_3 : Int) := of_decide_eq_true (by first | (with_reducible assumption) | assumption); have q154 : x13_3 < (y148.length : Int) := of_decide_eq_true (by first | (with_reducible assumption) | assumption); obtain ⟨ad154, e154, hx154_0⟩ := Kd.at_string (Kd.R_reads' HO_12.out).2.2 x13_3 p154 q154; obtain rfl : ad151 = ad154 := (by injection e154); replace p154 := eq_true p154; replace q154 := eq_true q154) | (go_at_call 15; (with_reducible refine (correctorref5_Escape.calls k3 (rdOf ByteArray.empty y148 x13_3) t155 t156 _ A41.out).mono ?_); rintro e w52 ⟨rfl, hb⟩; have n0_ := Aside0.mk (Kd.R_below (by (with_reducible repeat (first | apply Kd.R_alloc | apply Kd.R_drewN | apply Kd.R_drew)); exact HO_12.out) hb); have n1_ := Aside0.mk (below_step (by repeat (first | (with_reducible first | exact HB.out | apply below_alloc | apply pw_below_drewN | apply below_drew1) | exact HB.out)) hb); clear HO_12; clear HB; have HO_12 := n0_; have HB := n1_; clear n0_ n1_; (try clear hb); (try clear hb2); (try clear hk); (try clear hi)))
                                                  repeat (go_quiet (first | (go_at_call 14; (with_reducible refine (chars_Escape.calls k3 (rdOf ByteArray.empty y148 x13_3) t152 t153 _ A40.out).mono ?_); rintro e w51 ⟨rfl, hb⟩; have n0_ := Aside0.mk (Kd.R_below (by (with_reducible repeat (first | apply Kd.R_alloc | apply Kd.R_drewN | apply Kd.R_drew)); exact HO_12.out) hb); have n1_ := Aside0.mk (below_step (by repeat (first | (with_reducible first | exact HB.out | apply below_alloc | apply pw_below_drewN | apply below_drew1) | exact HB.out)) hb); clear HO_12; clear HB; have HO_12 := n0_; have HB := n1_; clear n0_ n1_; (try clear hb); (try clear hb2); (try clear hk); (try clear hi); have p154 : 0 ≤ (x13_3 : Int) := of_decide_eq_true (by first | (with_reducible assumption) | assumption); have q154 : x13_3 < (y148.length : Int) := of_decide_eq_true (by first | (with_reducible assumption) | assumption); obtain ⟨ad154, e154, hx154_0⟩ := Kd.at_string (Kd.R_reads' HO_12.out).2.2 x13_3 p154 q154; obtain rfl : ad151 = ad154 := (by injection e154); replace p154 := eq_true p154; replace q154 := eq_true q154) | (go_at_call 15; (with_reducible refine (correctorref5_Escape.calls k3 (rdOf ByteArray.empty y148 x13_3) t155 t156 _ A41.out).mono ?_); rintro e w52 ⟨rfl, hb⟩; have n0_ := Aside0.mk (Kd.R_below (by (with_reducible repeat (first | apply Kd.R_alloc | apply Kd.R_drewN | apply Kd.R_drew)); exact HO_12.out) hb); have n1_ := Aside0.mk (below_step (by repeat (first | (with_reducible first | exact HB.out | apply below_alloc | apply pw_below_drewN | apply below_drew1) | exact HB.out)) hb); clear HO_12; clear HB; have HO_12 := n0_; have HB := n1_; clear n0_ n1_; (try clear hb); (try clear hb2); (try clear hk); (try clear hi))); try go_wp2_with (first | (go_at_call 14; (with_reducible refine (chars_Escape.calls k3 (rdOf ByteArray.empty y148 x13_3) t152 t153 _ A40.out).mono ?_); rintro e w51 ⟨rfl, hb⟩; have n0_ := Aside0.mk (Kd.R_below (by (with_reducible repeat (first | apply Kd.R_alloc | apply Kd.R_drewN | apply Kd.R_drew)); exact HO_12.out) hb); have n1_ := Aside0.mk (below_step (by repeat (first | (with_reducible first | exact HB.out | apply below_alloc | apply pw_below_drewN | apply below_drew1) | exact HB.out)) hb); clear HO_12; clear HB; have HO_12 := n0_; have HB := n1_; clear n0_ n1_; (try clear hb); (try clear hb2); (try clear hk); (try clear hi); have p154 : 0 ≤ (x13_3 : Int) := of_decide_eq_true (by first | (with_reducible assumption) | assumption); have q154 : x13_3 < (y148.length : Int) := of_decide_eq_true (by first | (with_reducible assumption) | assumption); obtain ⟨ad154, e154, hx154_0⟩ := Kd.at_string (Kd.R_reads' HO_12.out).2.2 x13_3 p154 q154; obtain rfl : ad151 = ad154 := (by injection e154); replace p154 := eq_true p154; replace q154 := eq_true q154) | (go_at_call 15; (with_reducible refine (correctorref5_Escape.calls k3 (rdOf ByteArray.empty y148 x13_3) t155 t156 _ A41.out).mono ?_); rintro e w52 ⟨rfl, hb⟩; have n0_ := Aside0.mk (Kd.R_below (by (with_reducible repeat (first | apply Kd.R_alloc | apply Kd.R_drewN | apply Kd.R_drew)); exact HO_12.out) hb); have n1_ := Aside0.mk (below_step (by repeat (first | (with_reducible first | exact HB.out | apply below_alloc | apply pw_below_drewN | apply below_drew1) | exact HB.out)) hb); clear HO_12; clear HB; have HO_12 := n0_; have HB := n1_; clear n0_ n1_; (try clear hb); (try clear hb2); (try clear hk); (try clear hi))))
                                                  go_ret
                                                  exact ⟨by first | rfl | (simp [errW_none, errW_some] <;> rfl) | (simp [*, errW_none, errW_some] <;> rfl), by repeat (first | (with_reducible first | exact HB.out | apply below_alloc | apply pw_below_drewN | apply below_drew1) | exact HB.out)⟩
                                              · rw [if_neg c39] at H
                                                exact absurd H (by simp)
                                            · rw [if_neg c38] at H
                                              have c38b0 : decide (x13_3 < (y148.length : Int)) = false := decide_eq_false c38
                                              clear c38
                                              obtain rfl := Option.some.inj H
                                              obtain ⟨Ao53, co53, eo53⟩ := Kd.R_slice HO_12.out
                                              subst eo53
                                              go_wp2
                                              repeat (go_quiet (fail); try go_wp2)
                                              go_ret
                                              exact ⟨by first | rfl | (simp [errW_none, errW_some] <;> rfl) | (simp [*, errW_none, errW_some] <;> rfl), by repeat (first | (with_reducible first | exact HB.out | apply below_alloc | apply pw_below_drewN | apply below_drew1) | exact HB.out)⟩
                                      · rw [if_neg c32] at H
                                        exact absurd H (by simp)
                                    · rw [if_neg c31] at H
                                      exact absurd H (by simp)
                                  · rw [if_neg c30] at H
                                    exact absurd H (by simp)
                                · rw [if_neg c29] at H
                                  exact absurd H (by simp)
                              · rw [if_neg c28] at H
                                exact absurd H (by simp)
                            · rw [if_neg c27] at H
                              exact absurd H (by simp)
                          · rw [if_neg c26] at H
                            exact absurd H (by simp)
                        · rw [if_neg c25] at H
                          exact absurd H (by simp)
                      · rw [if_neg c24] at H
                        exact absurd H (by simp)
                    · rw [if_neg c23] at H
                      exact absurd H (by simp)
                  · rw [if_neg c22] at H
                    exact absurd H (by simp)
                · rw [if_neg c21] at H
                  exact absurd H (by simp)
  · replace c6 := Bool.eq_false_iff.mpr c6
    subst c6
    have H1 : (some false) = some r := by rw [if_neg (show ¬ (false = true) by decide)] at H; exact H
    clear H
    have H := H1
    clear H1
    obtain rfl := Option.some.inj H
    go_enter Try.func3, Try.ntmps3
    go_wp2_with (first | (go_at_call 13; (with_reducible refine (correctorlaw5_known.calls k  false _ A5.out).mono ?_); rintro e w54 ⟨rfl, hb⟩; have n0_ := Aside0.mk (below_step (by repeat (first | (with_reducible first | exact HB.out | apply below_alloc | apply pw_below_drewN | apply below_drew1) | exact HB.out)) hb); clear HB; have HB := n0_; clear n0_; (try clear hb); (try clear hb2); (try clear hk); (try clear hi)))
    repeat (go_quiet (first | (go_at_call 13; (with_reducible refine (correctorlaw5_known.calls k  false _ A5.out).mono ?_); rintro e w54 ⟨rfl, hb⟩; have n0_ := Aside0.mk (below_step (by repeat (first | (with_reducible first | exact HB.out | apply below_alloc | apply pw_below_drewN | apply below_drew1) | exact HB.out)) hb); clear HB; have HB := n0_; clear n0_; (try clear hb); (try clear hb2); (try clear hk); (try clear hi))); try go_wp2_with (first | (go_at_call 13; (with_reducible refine (correctorlaw5_known.calls k  false _ A5.out).mono ?_); rintro e w54 ⟨rfl, hb⟩; have n0_ := Aside0.mk (below_step (by repeat (first | (with_reducible first | exact HB.out | apply below_alloc | apply pw_below_drewN | apply below_drew1) | exact HB.out)) hb); clear HB; have HB := n0_; clear n0_; (try clear hb); (try clear hb2); (try clear hk); (try clear hi))))
    go_ret
    exact ⟨by first | rfl | (simp [errW_none, errW_some] <;> rfl) | (simp [*, errW_none, errW_some] <;> rfl), by repeat (first | (with_reducible first | exact HB.out | apply below_alloc | apply pw_below_drewN | apply below_drew1) | exact HB.out)⟩

/-- THE ONE PURE STATEMENT of correctorlaw5_CharsEscapes: yours. -/
def correctorlaw5_CharsEscapes.Pure : Prop := ∀ (a0 : Int) (a1 : ByteArray) (a2 : ByteArray) (a3 : ByteArray), (Lit.int .u8 a0).wf = true → a1.size ≤ 140737488351232 → a2.size ≤ 140737488351232 → a3.size ≤ 140737488351232 → ∃ k, correctorlaw5_CharsEscapes.f k a0 a1 a2 a3 = some true
theorem correctorlaw5_CharsEscapes.walk (P : correctorlaw5_CharsEscapes.Pure) (a0 : Int) (a1 : ByteArray) (a2 : ByteArray) (a3 : ByteArray) (w : World) (w0 : (Lit.int .u8 a0).wf = true) (w1 : a1.size ≤ 140737488351232) (w2 : a2.size ≤ 140737488351232) (w3 : a3.size ≤ 140737488351232) :
    Calls Try.prog 3 #[.int .u8 a0, .string a1, .string a2, .string a3] w fun e w' => e = .returned (.bool true) ∧ Below w.heap.size w w' := by
  obtain ⟨k, h⟩ := P a0 a1 a2 a3 w0 w1 w2 w3
  refine (correctorlaw5_CharsEscapes.calls k a0 a1 a2 a3 true w h).mono ?_
  rintro e w' ⟨rfl, hd⟩
  exact ⟨rfl, hd⟩

end Go.Proofs.Ytpigemgiegbblaa.Q
