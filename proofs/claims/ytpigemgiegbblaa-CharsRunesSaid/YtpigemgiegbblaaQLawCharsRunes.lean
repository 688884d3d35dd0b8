/- Proved here, in the forms of the print's contracts: what each Go function answers, and the rows of the laws over it; by a program and by hand. -/
import Derived.Test.YtpigemgiegbblaaQ0
import Derived.Test.YtpigemgiegbblaaQchars
import Derived.Test.YtpigemgiegbblaaQcorrectorlaw5
namespace Go.Proofs.Ytpigemgiegbblaa.Q
open Go.RowKit Go.Proofs.YtpigemgiegbblaaW.PrintWords Go.Proofs.YtpigemgiegbblaaW.PrintLast Go.Proofs.YtpigemgiegbblaaW.PrintMore
attribute [local go_sem] max2_int min2_int max_two min_two max_three min_three max_four min_four   -- for this text's walks alone
set_option linter.unusedVariables false
set_option linter.unusedSimpArgs false

/-! ### correctorlaw5_CharsRunes: function 4 -/
mutual
def correctorlaw5_CharsRunes.j0 : Nat → Int → Bool → Option (Bool)
  | 0, _, _ => none
  | k + 1, x0, x18 => if x18 = true then (some true) else (correctorlaw5_CharsRunes.l0 k x0 (⟨#[48, 49, 50, 51, 52, 53, 54, 55, 56, 57, 97, 98, 99, 100, 101, 102]⟩ : ByteArray) (⟨#[]⟩ : ByteArray) 7)
def correctorlaw5_CharsRunes.l0 : Nat → Int → ByteArray → ByteArray → Int → Option (Bool)
  | 0, _, _, _, _ => none
  | k + 1, x0, x3, x4, x5 => if x5 ≥ 0 then (if 0 ≤ (IntKind.u64.wrap (wrap64 (4 * x5))) then (if 0 ≤ (Go.bits .and .i64 (wrap64 (shr .i32 x0 (IntKind.u64.wrap (wrap64 (4 * x5))))) 15) then (if (Go.bits .and .i64 (wrap64 (shr .i32 x0 (IntKind.u64.wrap (wrap64 (4 * x5))))) 15) ≤ (wrap64 ((Go.bits .and .i64 (wrap64 (shr .i32 x0 (IntKind.u64.wrap (wrap64 (4 * x5))))) 15) + 1)) then (if (wrap64 ((Go.bits .and .i64 (wrap64 (shr .i32 x0 (IntKind.u64.wrap (wrap64 (4 * x5))))) 15) + 1)) ≤ (x3.size : Int) then (if x4.size + (x3.extract ((Go.bits .and .i64 (wrap64 (shr .i32 x0 (IntKind.u64.wrap (wrap64 (4 * x5))))) 15) : Int).toNat ((wrap64 ((Go.bits .and .i64 (wrap64 (shr .i32 x0 (IntKind.u64.wrap (wrap64 (4 * x5))))) 15) + 1)) : Int).toNat).size ≤ 9223372036854775807 then (correctorlaw5_CharsRunes.l0 k x0 x3 (x4 ++ (x3.extract ((Go.bits .and .i64 (wrap64 (shr .i32 x0 (IntKind.u64.wrap (wrap64 (4 * x5))))) 15) : Int).toNat ((wrap64 ((Go.bits .and .i64 (wrap64 (shr .i32 x0 (IntKind.u64.wrap (wrap64 (4 * x5))))) 15) + 1)) : Int).toNat)) (wrap64 (x5 - 1))) else (none)) else (none)) else (none)) else (none)) else (none)) else (if 2 + x4.size ≤ 9223372036854775807 then ((chars_Escape.f k ((⟨#[92, 85]⟩ : ByteArray) ++ x4)).bind fun bt158 => (if x0 ≥ 55296 then (correctorlaw5_CharsRunes.j2 k x0 x4 bt158.1 bt158.2 (decide (x0 ≤ 57343))) else (correctorlaw5_CharsRunes.j2 k x0 x4 bt158.1 bt158.2 false))) else (none))
def correctorlaw5_CharsRunes.j2 : Nat → Int → ByteArray → ByteArray → Int → Bool → Option (Bool)
  | 0, _, _, _, _, _ => none
  | k + 1, x0, x4, x7, x8, x48 => if x48 = true then (if x7.toList = ([] : List UInt8) then (some (x8 == 0)) else (some false)) else (if x7.toList = (Utf8.encode x0).toList then (if x8 = 10 then (if 4 ≤ (x4.size : Int) then (if 2 + (x4.extract 4 x4.size).size ≤ 9223372036854775807 then ((chars_Escape.f k ((⟨#[92, 117]⟩ : ByteArray) ++ (x4.extract 4 x4.size))).bind fun bt160 => (if x0 > 65535 then (some true) else (if bt160.1.toList = (Utf8.encode x0).toList then (some (bt160.2 == 6)) else (some false)))) else (none)) else (none)) else (some false)) else (some false))
end
def correctorlaw5_CharsRunes.f (k : Nat) (a0 : Int) : Option (Bool) := (correctorlaw5_known.f k).bind fun t157 => (if t157 = true then (if a0 < 0 then (correctorlaw5_CharsRunes.j0 k a0 true) else (correctorlaw5_CharsRunes.j0 k a0 (decide (a0 > 1114111)))) else (some false))
theorem correctorlaw5_CharsRunes.mono_l : ∀ k, (∀ y0 y1, LeO (correctorlaw5_CharsRunes.j0 k y0 y1) (correctorlaw5_CharsRunes.j0 (k + 1) y0 y1)) ∧ (∀ y0 y1 y2 y3, LeO (correctorlaw5_CharsRunes.l0 k y0 y1 y2 y3) (correctorlaw5_CharsRunes.l0 (k + 1) y0 y1 y2 y3)) ∧ (∀ y0 y1 y2 y3 y4, LeO (correctorlaw5_CharsRunes.j2 k y0 y1 y2 y3 y4) (correctorlaw5_CharsRunes.j2 (k + 1) y0 y1 y2 y3 y4))
  | 0 => ⟨fun _ _ r h => by simp [correctorlaw5_CharsRunes.j0] at h, fun _ _ _ _ r h => by simp [correctorlaw5_CharsRunes.l0] at h, fun _ _ _ _ _ r h => by simp [correctorlaw5_CharsRunes.j2] at h⟩
  | k + 1 => by
    obtain ⟨ih0, ih1, ih2⟩ := correctorlaw5_CharsRunes.mono_l k
    refine ⟨?_, ?_, ?_⟩
    · intro y0 y1
      unfold correctorlaw5_CharsRunes.j0
      repeat' first
      | (with_reducible exact ih0 _ _)
      | (with_reducible exact ih1 _ _ _ _)
      | (with_reducible exact ih2 _ _ _ _ _)
      | (with_reducible exact chars_Escape.mono _ _)
      | (with_reducible exact correctorlaw5_known.mono _)
      | (with_reducible exact LeO.refl _)
      | (with_reducible exact LeO.none _)
      | (with_reducible refine LeO.ite ?_ ?_)
      | (with_reducible refine LeO.bind ?_ (fun _ => ?_))
      | exact ih0 _ _
      | exact ih1 _ _ _ _
      | exact ih2 _ _ _ _ _
      | exact chars_Escape.mono _ _
      | exact correctorlaw5_known.mono _
      | exact LeO.none _
      | refine LeO.ite ?_ ?_
      | refine LeO.bind ?_ (fun _ => ?_)
    · intro y0 y1 y2 y3
      unfold correctorlaw5_CharsRunes.l0
      repeat' first
      | (with_reducible exact ih0 _ _)
      | (with_reducible exact ih1 _ _ _ _)
      | (with_reducible exact ih2 _ _ _ _ _)
      | (with_reducible exact chars_Escape.mono _ _)
      | (with_reducible exact correctorlaw5_known.mono _)
      | (with_reducible exact LeO.refl _)
      | (with_reducible exact LeO.none _)
      | (with_reducible refine LeO.ite ?_ ?_)
      | (with_reducible refine LeO.bind ?_ (fun _ => ?_))
      | exact ih0 _ _
      | exact ih1 _ _ _ _
      | exact ih2 _ _ _ _ _
      | exact chars_Escape.mono _ _
      | exact correctorlaw5_known.mono _
      | exact LeO.none _
      | refine LeO.ite ?_ ?_
      | refine LeO.bind ?_ (fun _ => ?_)
    · intro y0 y1 y2 y3 y4
      unfold correctorlaw5_CharsRunes.j2
      repeat' first
      | (with_reducible exact ih0 _ _)
      | (with_reducible exact ih1 _ _ _ _)
      | (with_reducible exact ih2 _ _ _ _ _)
      | (with_reducible exact chars_Escape.mono _ _)
      | (with_reducible exact correctorlaw5_known.mono _)
      | (with_reducible exact LeO.refl _)
      | (with_reducible exact LeO.none _)
      | (with_reducible refine LeO.ite ?_ ?_)
      | (with_reducible refine LeO.bind ?_ (fun _ => ?_))
      | exact ih0 _ _
      | exact ih1 _ _ _ _
      | exact ih2 _ _ _ _ _
      | exact chars_Escape.mono _ _
      | exact correctorlaw5_known.mono _
      | exact LeO.none _
      | refine LeO.ite ?_ ?_
      | refine LeO.bind ?_ (fun _ => ?_)
theorem correctorlaw5_CharsRunes.mono : ∀ a0 k, LeO (correctorlaw5_CharsRunes.f k a0) (correctorlaw5_CharsRunes.f (k + 1) a0) := by
  intro a0 k
  obtain ⟨ih0, ih1, ih2⟩ := correctorlaw5_CharsRunes.mono_l k
  unfold correctorlaw5_CharsRunes.f
  repeat' first
      | (with_reducible exact ih0 _ _)
      | (with_reducible exact ih1 _ _ _ _)
      | (with_reducible exact ih2 _ _ _ _ _)
      | (with_reducible exact chars_Escape.mono _ _)
      | (with_reducible exact correctorlaw5_known.mono _)
      | (with_reducible exact LeO.refl _)
      | (with_reducible exact LeO.none _)
      | (with_reducible refine LeO.ite ?_ ?_)
      | (with_reducible refine LeO.bind ?_ (fun _ => ?_))
      | exact ih0 _ _
      | exact ih1 _ _ _ _
      | exact ih2 _ _ _ _ _
      | exact chars_Escape.mono _ _
      | exact correctorlaw5_known.mono _
      | exact LeO.none _
      | refine LeO.ite ?_ ?_
      | refine LeO.bind ?_ (fun _ => ?_)
set_option maxHeartbeats 8000000 in
set_option maxRecDepth 100000 in
theorem correctorlaw5_CharsRunes.calls (k : Nat) (a0 : Int) (r : Bool) (w : World) (h : correctorlaw5_CharsRunes.f k a0 = some r) :
    Calls Try.prog 4 #[.int .i32 a0] w fun e w' => e = .returned (.bool r) ∧ Below w.heap.size w w' := by
  have HB := Aside0.mk (Below.refl w.heap.size w)
  have H : ((correctorlaw5_known.f k).bind fun t157 => (if t157 = true then (if a0 < 0 then (correctorlaw5_CharsRunes.j0 k a0 true) else (correctorlaw5_CharsRunes.j0 k a0 (decide (a0 > 1114111)))) else (some false))) = some r := h
  clear h
  replace H := Option.bind_eq_some_iff.mp H
  obtain ⟨t157, A20, H⟩ := H
  replace H : (if t157 = true then (if a0 < 0 then (correctorlaw5_CharsRunes.j0 k a0 true) else (correctorlaw5_CharsRunes.j0 k a0 (decide (a0 > 1114111)))) else (some false)) = some r := H
  have A2 := Aside0.mk A20
  clear A20
  by_cases c3 : t157 = true
  · subst c3
    have H1 : (if a0 < 0 then (correctorlaw5_CharsRunes.j0 k a0 true) else (correctorlaw5_CharsRunes.j0 k a0 (decide (a0 > 1114111)))) = some r := by rw [if_pos rfl] at H; exact H
    clear H
    have H := H1
    clear H1
    have HC4 := Aside0.mk H
    clear H
    go_enter Try.func4, Try.ntmps4
    go_upto_region 3 with (first | ((with_reducible refine gate_callee (f := 13) rfl ?_); refine goesL_ (some 11) rfl rfl Try.func13 (by kernel_rfl) rfl #[] rfl (by (try simp only [List.map_toArray, List.map_cons, List.map_nil]); first | done | rfl | (simp only [List.length_drop, List.length_take]; rfl) | (simp only [ByteArray.size_extract, Nat.min_self]; rfl)) ?_; (with_reducible refine (correctorlaw5_known.calls k  true _ A2.out).mono ?_); rintro e w5 ⟨rfl, hb⟩; refine ⟨_, rfl, ?_⟩; have n0_ := Aside0.mk (below_step (by repeat (first | (with_reducible first | exact HB.out | apply below_alloc | apply pw_below_drewN | apply below_drew1) | exact HB.out)) hb); clear HB; have HB := n0_; clear n0_; (try clear hb); (try clear hb2); (try clear hk); (try clear hi)))
    (try simp only [Act.put, List.setIfInBounds_toArray, List.set_cons_zero, List.set_cons_succ])
    go_cut [18] (fun v18 wc => ∃ (kq : Nat) (x18_3 : Bool), v18 = .bool x18_3 ∧ Aside0 (correctorlaw5_CharsRunes.j0 kq a0 x18_3 = some r) ∧ Aside0 (kq ≤ k) ∧ Aside0 (Below w.heap.size w wc))
    case first =>
      have H := HC4.out
      clear HC4
      by_cases c6 : a0 < 0
      · rw [if_pos c6] at H
        have c6b0 : decide (a0 < 0) = true := decide_eq_true c6
        clear c6
        (first | rw [c6b0] | (simp only [i64_w, i32_w]; rw [c6b0]) | skip)
        have H' := Aside0.mk H
        clear H
        go_wp2
        go_meet
        case rel => exact ⟨_, (true), (by first | rfl | (simp; done) | (simp [*]; done)), H', ⟨by first | omega | exact Nat.le_refl _⟩, ⟨by repeat (first | (with_reducible first | exact HB.out | apply below_alloc | apply pw_below_drewN | apply below_drew1) | exact HB.out)⟩⟩
      · rw [if_neg c6] at H
        have c6b0 : decide (a0 < 0) = false := decide_eq_false c6
        clear c6
        (first | rw [c6b0] | (simp only [i64_w, i32_w]; rw [c6b0]) | skip)
        have H' := Aside0.mk H
        clear H
        go_wp2
        go_meet
        case rel => exact ⟨_, (decide (a0 > 1114111)), (by first | rfl | (simp; done) | (simp [*]; done)), H', ⟨by first | omega | exact Nat.le_refl _⟩, ⟨by repeat (first | (with_reducible first | exact HB.out | apply below_alloc | apply pw_below_drewN | apply below_drew1) | exact HB.out)⟩⟩
    case rest =>
      clear HC4
      try clear c1
      try clear p2
      try clear c3
      try clear c4
      try clear c6
      try clear c6b0
      obtain ⟨kq, x18_3, rfl, HA, HJ3, HB⟩ := hcut
      cases kq with
      | zero => exact absurd HA.out (by simp [correctorlaw5_CharsRunes.j0])
      | succ kj3 =>
        have H := HA.out
        clear HA
        simp only [correctorlaw5_CharsRunes.j0] at H
        by_cases c7 : x18_3 = true
        · subst c7
          have H1 : (some true) = some r := by rw [if_pos rfl] at H; exact H
          clear H
          have H := H1
          clear H1
          obtain rfl := Option.some.inj H
          go_wp2
          go_ret
          exact ⟨by first | rfl | (simp [errW_none, errW_some] <;> rfl) | (simp [*, errW_none, errW_some] <;> rfl), by repeat (first | (with_reducible first | exact HB.out | apply below_alloc | apply pw_below_drewN | apply below_drew1) | exact HB.out)⟩
        · replace c7 := Bool.eq_false_iff.mpr c7
          subst c7
          have H1 : (correctorlaw5_CharsRunes.l0 kj3 a0 (⟨#[48, 49, 50, 51, 52, 53, 54, 55, 56, 57, 97, 98, 99, 100, 101, 102]⟩ : ByteArray) (⟨#[]⟩ : ByteArray) 7) = some r := by rw [if_neg (show ¬ (false = true) by decide)] at H; exact H
          clear H
          have H := H1
          clear H1
          have H' := Aside0.mk H
          clear H
          go_wp2
          go_loopg [4, 5] kj3 (fun kq v4 v5 w' => ∃ (x4_2 : ByteArray) (x5_2 : Int), v4 = .string x4_2 ∧ v5 = .int .i64 x5_2 ∧ Aside0 (correctorlaw5_CharsRunes.l0 kq a0 (⟨#[48, 49, 50, 51, 52, 53, 54, 55, 56, 57, 97, 98, 99, 100, 101, 102]⟩ : ByteArray) x4_2 x5_2 = some r) ∧ Aside0 (kq ≤ kj3) ∧ Aside0 (Below w.heap.size w w'))
          case atStart => exact ⟨((⟨#[]⟩ : ByteArray)), (7), (by first | rfl | (simp; done) | (simp [*]; done)), (by first | rfl | (simp; done) | (simp [*]; done)), H', ⟨Nat.le_refl _⟩, ⟨by repeat (first | (with_reducible first | exact HB.out | apply below_alloc | apply pw_below_drewN | apply below_drew1) | exact HB.out)⟩⟩
          case round =>
            clear H'
            try clear c1
            try clear p2
            try clear c3
            try clear c4
            try clear c6
            try clear c6b0
            try clear c7
            try clear p2
            obtain ⟨x4_2, x5_2, rfl, rfl, HA, HK2, HB⟩ := hrel
            cases gk with
            | zero => exact absurd HA.out (by simp [correctorlaw5_CharsRunes.l0])
            | succ k2 =>
              have H := HA.out
              clear HA
              simp only [correctorlaw5_CharsRunes.l0] at H
              by_cases c8 : x5_2 ≥ 0
              · rw [if_pos c8] at H
                have c8b0 : decide (0 ≤ x5_2) = true := decide_eq_true c8
                clear c8
                obtain ⟨ji9, hji9⟩ : ∃ j_ : Int, (IntKind.u64.wrap (wrap64 (4 * x5_2))) = j_ := ⟨_, rfl⟩
                replace H : (if 0 ≤ (ji9) then (if 0 ≤ (Go.bits .and .i64 (wrap64 (shr .i32 a0 (ji9))) 15) then (if (Go.bits .and .i64 (wrap64 (shr .i32 a0 (ji9))) 15) ≤ (wrap64 ((Go.bits .and .i64 (wrap64 (shr .i32 a0 (ji9))) 15) + 1)) then (if (wrap64 ((Go.bits .and .i64 (wrap64 (shr .i32 a0 (ji9))) 15) + 1)) ≤ ((⟨#[48, 49, 50, 51, 52, 53, 54, 55, 56, 57, 97, 98, 99, 100, 101, 102]⟩ : ByteArray).size : Int) then (if x4_2.size + ((⟨#[48, 49, 50, 51, 52, 53, 54, 55, 56, 57, 97, 98, 99, 100, 101, 102]⟩ : ByteArray).extract ((Go.bits .and .i64 (wrap64 (shr .i32 a0 (ji9))) 15) : Int).toNat ((wrap64 ((Go.bits .and .i64 (wrap64 (shr .i32 a0 (ji9))) 15) + 1)) : Int).toNat).size ≤ 9223372036854775807 then (correctorlaw5_CharsRunes.l0 k2 a0 (⟨#[48, 49, 50, 51, 52, 53, 54, 55, 56, 57, 97, 98, 99, 100, 101, 102]⟩ : ByteArray) (x4_2 ++ ((⟨#[48, 49, 50, 51, 52, 53, 54, 55, 56, 57, 97, 98, 99, 100, 101, 102]⟩ : ByteArray).extract ((Go.bits .and .i64 (wrap64 (shr .i32 a0 (ji9))) 15) : Int).toNat ((wrap64 ((Go.bits .and .i64 (wrap64 (shr .i32 a0 (ji9))) 15) + 1)) : Int).toNat)) (wrap64 (x5_2 - 1))) else (none)) else (none)) else (none)) else (none)) else (none)) = some r := by first | (rw [hji9] at H; exact H) | (simp only [hji9] at H ⊢; exact H)
                by_cases c10 : 0 ≤ (ji9)
                · rw [if_pos c10] at H
                  have c10b0 := eq_true c10
                  have c10b1 : decide (0 ≤ (ji9)) = true := decide_eq_true c10
                  clear c10
                  obtain ⟨ji11, hji11⟩ : ∃ j_ : Int, (shr .i32 a0 (ji9)) = j_ := ⟨_, rfl⟩
                  replace H : (if 0 ≤ (Go.bits .and .i64 (wrap64 (ji11)) 15) then (if (Go.bits .and .i64 (wrap64 (ji11)) 15) ≤ (wrap64 ((Go.bits .and .i64 (wrap64 (ji11)) 15) + 1)) then (if (wrap64 ((Go.bits .and .i64 (wrap64 (ji11)) 15) + 1)) ≤ ((⟨#[48, 49, 50, 51, 52, 53, 54, 55, 56, 57, 97, 98, 99, 100, 101, 102]⟩ : ByteArray).size : Int) then (if x4_2.size + ((⟨#[48, 49, 50, 51, 52, 53, 54, 55, 56, 57, 97, 98, 99, 100, 101, 102]⟩ : ByteArray).extract ((Go.bits .and .i64 (wrap64 (ji11)) 15) : Int).toNat ((wrap64 ((Go.bits .and .i64 (wrap64 (ji11)) 15) + 1)) : Int).toNat).size ≤ 9223372036854775807 then (correctorlaw5_CharsRunes.l0 k2 a0 (⟨#[48, 49, 50, 51, 52, 53, 54, 55, 56, 57, 97, 98, 99, 100, 101, 102]⟩ : ByteArray) (x4_2 ++ ((⟨#[48, 49, 50, 51, 52, 53, 54, 55, 56, 57, 97, 98, 99, 100, 101, 102]⟩ : ByteArray).extract ((Go.bits .and .i64 (wrap64 (ji11)) 15) : Int).toNat ((wrap64 ((Go.bits .and .i64 (wrap64 (ji11)) 15) + 1)) : Int).toNat)) (wrap64 (x5_2 - 1))) else (none)) else (none)) else (none)) else (none)) = some r := by first | (rw [hji11] at H; exact H) | (simp only [hji11] at H ⊢; exact H)
                  have hji11_ : (a0 / 2 ^ min (ji9).toNat 32) = ji11 := hji11
                  have hji11z : (ji9) ≤ 32 → (a0 / 2 ^ (ji9).toNat) = ji11 := shr_small hji11
                  obtain ⟨ji12, hji12⟩ : ∃ j_ : Int, (Go.bits .and .i64 (wrap64 (ji11)) 15) = j_ := ⟨_, rfl⟩
                  replace H : (if 0 ≤ (ji12) then (if (ji12) ≤ (wrap64 ((ji12) + 1)) then (if (wrap64 ((ji12) + 1)) ≤ ((⟨#[48, 49, 50, 51, 52, 53, 54, 55, 56, 57, 97, 98, 99, 100, 101, 102]⟩ : ByteArray).size : Int) then (if x4_2.size + ((⟨#[48, 49, 50, 51, 52, 53, 54, 55, 56, 57, 97, 98, 99, 100, 101, 102]⟩ : ByteArray).extract ((ji12) : Int).toNat ((wrap64 ((ji12) + 1)) : Int).toNat).size ≤ 9223372036854775807 then (correctorlaw5_CharsRunes.l0 k2 a0 (⟨#[48, 49, 50, 51, 52, 53, 54, 55, 56, 57, 97, 98, 99, 100, 101, 102]⟩ : ByteArray) (x4_2 ++ ((⟨#[48, 49, 50, 51, 52, 53, 54, 55, 56, 57, 97, 98, 99, 100, 101, 102]⟩ : ByteArray).extract ((ji12) : Int).toNat ((wrap64 ((ji12) + 1)) : Int).toNat)) (wrap64 (x5_2 - 1))) else (none)) else (none)) else (none)) else (none)) = some r := by first | (rw [hji12] at H; exact H) | (simp only [hji12] at H ⊢; exact H)
                  by_cases c13 : 0 ≤ (ji12)
                  · rw [if_pos c13] at H
                    have c13b0 := eq_true c13
                    have c13b1 : decide (0 ≤ (ji12)) = true := decide_eq_true c13
                    clear c13
                    by_cases c14 : (ji12) ≤ (wrap64 ((ji12) + 1))
                    · rw [if_pos c14] at H
                      have c14b0 := eq_true c14
                      have c14b1 : decide ((ji12) ≤ (wrap64 ((ji12) + 1))) = true := decide_eq_true c14
                      (try (have c14y := eq_true (show 0 ≤ (wrap64 ((ji12) + 1)) from Int.le_trans (of_eq_true (by assumption : (0 ≤ (ji12)) = True)) c14)))
                      by_cases c15 : (wrap64 ((ji12) + 1)) ≤ ((⟨#[48, 49, 50, 51, 52, 53, 54, 55, 56, 57, 97, 98, 99, 100, 101, 102]⟩ : ByteArray).size : Int)
                      · rw [if_pos c15] at H
                        have c15b0 := eq_true c15
                        have c15b1 : decide ((wrap64 ((ji12) + 1)) ≤ ((⟨#[48, 49, 50, 51, 52, 53, 54, 55, 56, 57, 97, 98, 99, 100, 101, 102]⟩ : ByteArray).size : Int)) = true := decide_eq_true c15
                        (try (have c15z := eq_true c15; simp only [show ((⟨#[48, 49, 50, 51, 52, 53, 54, 55, 56, 57, 97, 98, 99, 100, 101, 102]⟩ : ByteArray).size : Int) = 16 from rfl] at c15z))
                        by_cases c16 : x4_2.size + ((⟨#[48, 49, 50, 51, 52, 53, 54, 55, 56, 57, 97, 98, 99, 100, 101, 102]⟩ : ByteArray).extract ((ji12) : Int).toNat ((wrap64 ((ji12) + 1)) : Int).toNat).size ≤ 9223372036854775807
                        · rw [if_pos c16] at H
                          have c16b0 := eq_true c16
                          have c16b1 : decide (x4_2.size + ((⟨#[48, 49, 50, 51, 52, 53, 54, 55, 56, 57, 97, 98, 99, 100, 101, 102]⟩ : ByteArray).extract ((ji12) : Int).toNat ((wrap64 ((ji12) + 1)) : Int).toNat).size ≤ 9223372036854775807) = true := decide_eq_true c16
                          try have c16b2 : (9223372036854775807 < x4_2.size + ((⟨#[48, 49, 50, 51, 52, 53, 54, 55, 56, 57, 97, 98, 99, 100, 101, 102]⟩ : ByteArray).extract ((ji12) : Int).toNat ((wrap64 ((ji12) + 1)) : Int).toNat).size) = False := eq_false (Nat.not_lt.2 c16)
                          have H' := Aside0.mk H
                          clear H
                          go_wp2
                          go_roundg k2
                          case measure => have := HJ3.out; have := HK2.out; omega
                          case rel => exact ⟨(x4_2 ++ ((⟨#[48, 49, 50, 51, 52, 53, 54, 55, 56, 57, 97, 98, 99, 100, 101, 102]⟩ : ByteArray).extract ((ji12) : Int).toNat ((wrap64 ((ji12) + 1)) : Int).toNat)), (wrap64 (x5_2 - 1)), (by first | rfl | (simp; done) | (simp only [← hji12] <;> (first | rfl | simp)) | (simp [*]; done)), (by first | rfl | (simp; done) | (simp [*]; done)), (by first | exact H' | (simp only [hji12]; exact H') | (rw [hji12]; exact H')), ⟨by have := HJ3.out; have := HK2.out; omega⟩, ⟨by repeat (first | (with_reducible first | exact HB.out | apply below_alloc | apply pw_below_drewN | apply below_drew1) | exact HB.out)⟩⟩
                        · rw [if_neg c16] at H
                          exact absurd H (by simp)
                      · rw [if_neg c15] at H
                        exact absurd H (by simp)
                    · rw [if_neg c14] at H
                      exact absurd H (by simp)
                  · rw [if_neg c13] at H
                    exact absurd H (by simp)
                · rw [if_neg c10] at H
                  exact absurd H (by simp)
              · rw [if_neg c8] at H
                have c8b0 : decide (0 ≤ x5_2) = false := decide_eq_false c8
                clear c8
                by_cases c17 : 2 + x4_2.size ≤ 9223372036854775807
                · rw [if_pos c17] at H
                  have c17b0 := eq_true c17
                  have c17b1 : decide (2 + x4_2.size ≤ 9223372036854775807) = true := decide_eq_true c17
                  try have c17b2 : (9223372036854775807 < 2 + x4_2.size) = False := eq_false (Nat.not_lt.2 c17)
                  replace H := Option.bind_eq_some_iff.mp H
                  obtain ⟨⟨t158, t159⟩, A180, H⟩ := H
                  replace H : (if a0 ≥ 55296 then (correctorlaw5_CharsRunes.j2 k2 a0 x4_2 t158 t159 (decide (a0 ≤ 57343))) else (correctorlaw5_CharsRunes.j2 k2 a0 x4_2 t158 t159 false)) = some r := H
                  have A18 := Aside0.mk A180
                  clear A180
                  have HC19 := Aside0.mk H
                  clear H
                  go_upto_region 13 with (first | ((with_reducible refine gate_callee (f := 14) rfl ?_); refine goesL_ (some 40) rfl rfl Try.func14 (by kernel_rfl) rfl #[.string ((⟨#[92, 85]⟩ : ByteArray) ++ x4_2)] rfl (by (try simp only [List.map_toArray, List.map_cons, List.map_nil]); first | done | rfl | (simp only [List.length_drop, List.length_take]; rfl) | (simp only [ByteArray.size_extract, Nat.min_self]; rfl)) ?_; (with_reducible refine (chars_Escape.calls k2 ((⟨#[92, 85]⟩ : ByteArray) ++ x4_2) t158 t159 _ A18.out).mono ?_); rintro e w20 ⟨rfl, hb⟩; refine ⟨_, rfl, ?_⟩; have n0_ := Aside0.mk (below_step (by repeat (first | (with_reducible first | exact HB.out | apply below_alloc | apply pw_below_drewN | apply below_drew1) | exact HB.out)) hb); clear HB; have HB := n0_; clear n0_; (try clear hb); (try clear hb2); (try clear hk); (try clear hi)))
                  (try simp only [Act.put, List.setIfInBounds_toArray, List.set_cons_zero, List.set_cons_succ])
                  go_cut [48] (fun v48 wc => ∃ (kq : Nat) (x48_18 : Bool), v48 = .bool x48_18 ∧ Aside0 (correctorlaw5_CharsRunes.j2 kq a0 x4_2 t158 t159 x48_18 = some r) ∧ Aside0 (kq ≤ k2) ∧ Aside0 (Below w.heap.size w wc))
                  case first =>
                    have H := HC19.out
                    clear HC19
                    by_cases c21 : a0 ≥ 55296
                    · rw [if_pos c21] at H
                      have c21b0 : decide (55296 ≤ a0) = true := decide_eq_true c21
                      clear c21
                      (first | rw [c21b0] | (simp only [i64_w, i32_w]; rw [c21b0]) | skip)
                      have H' := Aside0.mk H
                      clear H
                      go_wp2
                      go_meet
                      case rel => exact ⟨_, (decide (a0 ≤ 57343)), (by first | rfl | (simp; done) | (simp [*]; done)), H', ⟨by have := HJ3.out; have := HK2.out; first | omega | exact Nat.le_refl _⟩, ⟨by repeat (first | (with_reducible first | exact HB.out | apply below_alloc | apply pw_below_drewN | apply below_drew1) | exact HB.out)⟩⟩
                    · rw [if_neg c21] at H
                      have c21b0 : decide (55296 ≤ a0) = false := decide_eq_false c21
                      clear c21
                      (first | rw [c21b0] | (simp only [i64_w, i32_w]; rw [c21b0]) | skip)
                      have H' := Aside0.mk H
                      clear H
                      go_wp2
                      go_meet
                      case rel => exact ⟨_, (false), (by first | rfl | (simp; done) | (simp [*]; done)), H', ⟨by have := HJ3.out; have := HK2.out; first | omega | exact Nat.le_refl _⟩, ⟨by repeat (first | (with_reducible first | exact HB.out | apply below_alloc | apply pw_below_drewN | apply below_drew1) | exact HB.out)⟩⟩
                  case rest =>
                    clear HC19
                    try clear c1
                    try clear c2
                    try clear p2
                    try clear c3
                    try clear c4
                    try clear c6
                    try clear c6b0
                    try clear p6
                    try clear c7
                    try clear c8
                    try clear c8b0
                    try clear c10
                    try clear c10b0
                    try clear c10b1
                    try clear c13
                    try clear c13b0
                    try clear c13b1
                    try clear c14
                    try clear c14b0
                    try clear c14b1
                    try clear c15
                    try clear c15b0
                    try clear c15b1
                    try clear c16
                    try clear c16b0
                    try clear c16b1
                    try clear c16b2
                    try clear c17
                    try clear c17b0
                    try clear c17b1
                    try clear c17b2
                    try clear c21
                    try clear c21b0
                    try clear p2
                    obtain ⟨kq, x48_18, rfl, HA, HJ18, HB⟩ := hcut
                    cases kq with
                    | zero => exact absurd HA.out (by simp [correctorlaw5_CharsRunes.j2])
                    | succ kj18 =>
                      have H := HA.out
                      clear HA
                      simp only [correctorlaw5_CharsRunes.j2] at H
                      by_cases c22 : x48_18 = true
                      · subst c22
                        have H1 : (if t158.toList = ([] : List UInt8) then (some (t159 == 0)) else (some false)) = some r := by rw [if_pos rfl] at H; exact H
                        clear H
                        have H := H1
                        clear H1
                        by_cases c23 : t158.toList = ([] : List UInt8)
                        · rw [if_pos c23] at H
                          have c23b0 : (t158.toList == ([] : List UInt8)) = true := beq_iff_eq.mpr c23
                          have c23b1 : (t158.toList != ([] : List UInt8)) = false := bne_eq_false_iff_eq.mpr c23
                          (try (have c23b2 : t158.toList.isEmpty = true := by simpa using c23))
                          clear c23
                          obtain rfl := Option.some.inj H
                          go_wp2
                          go_ret
                          exact ⟨by first | rfl | (simp [errW_none, errW_some] <;> rfl) | (simp [*, errW_none, errW_some] <;> rfl), by repeat (first | (with_reducible first | exact HB.out | apply below_alloc | apply pw_below_drewN | apply below_drew1) | exact HB.out)⟩
                        · rw [if_neg c23] at H
                          have c23b0 : (t158.toList == ([] : List UInt8)) = false := beq_eq_false_iff_ne.mpr c23
                          have c23b1 : (t158.toList != ([] : List UInt8)) = true := bne_iff_ne.mpr c23
                          (try (have c23b2 : t158.toList.isEmpty = false := by simpa using c23))
                          obtain rfl := Option.some.inj H
                          go_wp2
                          go_ret
                          exact ⟨by first | rfl | (simp [errW_none, errW_some] <;> rfl) | (simp [*, errW_none, errW_some] <;> rfl), by repeat (first | (with_reducible first | exact HB.out | apply below_alloc | apply pw_below_drewN | apply below_drew1) | exact HB.out)⟩
                      · replace c22 := Bool.eq_false_iff.mpr c22
                        subst c22
                        have H1 : (if t158.toList = (Utf8.encode a0).toList then (if t159 = 10 then (if 4 ≤ (x4_2.size : Int) then (if 2 + (x4_2.extract 4 x4_2.size).size ≤ 9223372036854775807 then ((chars_Escape.f kj18 ((⟨#[92, 117]⟩ : ByteArray) ++ (x4_2.extract 4 x4_2.size))).bind fun bt160 => (if a0 > 65535 then (some true) else (if bt160.1.toList = (Utf8.encode a0).toList then (some (bt160.2 == 6)) else (some false)))) else (none)) else (none)) else (some false)) else (some false)) = some r := by rw [if_neg (show ¬ (false = true) by decide)] at H; exact H
                        clear H
                        have H := H1
                        clear H1
                        by_cases c24 : t158.toList = (Utf8.encode a0).toList
                        · rw [if_pos c24] at H
                          have c24b0 : (t158.toList == (Utf8.encode a0).toList) = true := beq_iff_eq.mpr c24
                          have c24b1 : (t158.toList != (Utf8.encode a0).toList) = false := bne_eq_false_iff_eq.mpr c24
                          clear c24
                          by_cases c25 : t159 = 10
                          · rw [if_pos c25] at H
                            have c25b0 : (t159 == 10) = true := beq_iff_eq.mpr c25
                            have c25b1 : (t159 != 10) = false := bne_eq_false_iff_eq.mpr c25
                            clear c25
                            by_cases c26 : 4 ≤ (x4_2.size : Int)
                            · rw [if_pos c26] at H
                              have c26b0 := eq_true c26
                              have c26b1 : decide (4 ≤ (x4_2.size : Int)) = true := decide_eq_true c26
                              clear c26
                              by_cases c27 : 2 + (x4_2.extract 4 x4_2.size).size ≤ 9223372036854775807
                              · rw [if_pos c27] at H
                                have c27b0 := eq_true c27
                                have c27b1 : decide (2 + (x4_2.extract 4 x4_2.size).size ≤ 9223372036854775807) = true := decide_eq_true c27
                                (try (have c27n := c27; simp only [ByteArray.size_extract, Nat.min_self] at c27n))
                                try have c27b2 : (9223372036854775807 < 2 + (x4_2.extract 4 x4_2.size).size) = False := eq_false (Nat.not_lt.2 c27)
                                replace H := Option.bind_eq_some_iff.mp H
                                obtain ⟨⟨t160, t161⟩, A280, H⟩ := H
                                replace H : (if a0 > 65535 then (some true) else (if t160.toList = (Utf8.encode a0).toList then (some (t161 == 6)) else (some false))) = some r := H
                                have A28 := Aside0.mk A280
                                clear A280
                                by_cases c29 : a0 > 65535
                                · rw [if_pos c29] at H
                                  have c29b0 : decide (65535 < a0) = true := decide_eq_true c29
                                  clear c29
                                  obtain rfl := Option.some.inj H
                                  go_wp2_with (first | ((with_reducible refine gate_callee (f := 14) rfl ?_); refine goesL_ (some 67) rfl rfl Try.func14 (by kernel_rfl) rfl #[.string ((⟨#[92, 117]⟩ : ByteArray) ++ (x4_2.extract 4 x4_2.size))] rfl (by (try simp only [List.map_toArray, List.map_cons, List.map_nil]); first | done | rfl | (simp only [List.length_drop, List.length_take]; rfl) | (simp only [ByteArray.size_extract, Nat.min_self]; rfl)) ?_; (with_reducible refine (chars_Escape.calls kj18 ((⟨#[92, 117]⟩ : ByteArray) ++ (x4_2.extract 4 x4_2.size)) t160 t161 _ A28.out).mono ?_); rintro e w30 ⟨rfl, hb⟩; refine ⟨_, rfl, ?_⟩; have n0_ := Aside0.mk (below_step (by repeat (first | (with_reducible first | exact HB.out | apply below_alloc | apply pw_below_drewN | apply below_drew1) | exact HB.out)) hb); clear HB; have HB := n0_; clear n0_; (try clear hb); (try clear hb2); (try clear hk); (try clear hi)))
                                  go_ret
                                  exact ⟨by first | rfl | (simp [errW_none, errW_some] <;> rfl) | (simp [*, errW_none, errW_some] <;> rfl), by repeat (first | (with_reducible first | exact HB.out | apply below_alloc | apply pw_below_drewN | apply below_drew1) | exact HB.out)⟩
                                · rw [if_neg c29] at H
                                  have c29b0 : decide (65535 < a0) = false := decide_eq_false c29
                                  clear c29
                                  by_cases c31 : t160.toList = (Utf8.encode a0).toList
                                  · rw [if_pos c31] at H
                                    have c31b0 : (t160.toList == (Utf8.encode a0).toList) = true := beq_iff_eq.mpr c31
                                    have c31b1 : (t160.toList != (Utf8.encode a0).toList) = false := bne_eq_false_iff_eq.mpr c31
                                    clear c31
                                    obtain rfl := Option.some.inj H
                                    go_wp2_with (first | ((with_reducible refine gate_callee (f := 14) rfl ?_); refine goesL_ (some 67) rfl rfl Try.func14 (by kernel_rfl) rfl #[.string ((⟨#[92, 117]⟩ : ByteArray) ++ (x4_2.extract 4 x4_2.size))] rfl (by (try simp only [List.map_toArray, List.map_cons, List.map_nil]); first | done | rfl | (simp only [List.length_drop, List.length_take]; rfl) | (simp only [ByteArray.size_extract, Nat.min_self]; rfl)) ?_; (with_reducible refine (chars_Escape.calls kj18 ((⟨#[92, 117]⟩ : ByteArray) ++ (x4_2.extract 4 x4_2.size)) t160 t161 _ A28.out).mono ?_); rintro e w32 ⟨rfl, hb⟩; refine ⟨_, rfl, ?_⟩; have n0_ := Aside0.mk (below_step (by repeat (first | (with_reducible first | exact HB.out | apply below_alloc | apply pw_below_drewN | apply below_drew1) | exact HB.out)) hb); clear HB; have HB := n0_; clear n0_; (try clear hb); (try clear hb2); (try clear hk); (try clear hi)))
                                    go_ret
                                    exact ⟨by first | rfl | (simp [errW_none, errW_some] <;> rfl) | (simp [*, errW_none, errW_some] <;> rfl), by repeat (first | (with_reducible first | exact HB.out | apply below_alloc | apply pw_below_drewN | apply below_drew1) | exact HB.out)⟩
                                  · rw [if_neg c31] at H
                                    have c31b0 : (t160.toList == (Utf8.encode a0).toList) = false := beq_eq_false_iff_ne.mpr c31
                                    have c31b1 : (t160.toList != (Utf8.encode a0).toList) = true := bne_iff_ne.mpr c31
                                    obtain rfl := Option.some.inj H
                                    go_wp2_with (first | ((with_reducible refine gate_callee (f := 14) rfl ?_); refine goesL_ (some 67) rfl rfl Try.func14 (by kernel_rfl) rfl #[.string ((⟨#[92, 117]⟩ : ByteArray) ++ (x4_2.extract 4 x4_2.size))] rfl (by (try simp only [List.map_toArray, List.map_cons, List.map_nil]); first | done | rfl | (simp only [List.length_drop, List.length_take]; rfl) | (simp only [ByteArray.size_extract, Nat.min_self]; rfl)) ?_; (with_reducible refine (chars_Escape.calls kj18 ((⟨#[92, 117]⟩ : ByteArray) ++ (x4_2.extract 4 x4_2.size)) t160 t161 _ A28.out).mono ?_); rintro e w33 ⟨rfl, hb⟩; refine ⟨_, rfl, ?_⟩; have n0_ := Aside0.mk (below_step (by repeat (first | (with_reducible first | exact HB.out | apply below_alloc | apply pw_below_drewN | apply below_drew1) | exact HB.out)) hb); clear HB; have HB := n0_; clear n0_; (try clear hb); (try clear hb2); (try clear hk); (try clear hi)))
                                    go_ret
                                    exact ⟨by first | rfl | (simp [errW_none, errW_some] <;> rfl) | (simp [*, errW_none, errW_some] <;> rfl), by repeat (first | (with_reducible first | exact HB.out | apply below_alloc | apply pw_below_drewN | apply below_drew1) | exact HB.out)⟩
                              · rw [if_neg c27] at H
                                exact absurd H (by simp)
                            · rw [if_neg c26] at H
                              exact absurd H (by simp)
                          · rw [if_neg c25] at H
                            have c25b0 : (t159 == 10) = false := beq_eq_false_iff_ne.mpr c25
                            have c25b1 : (t159 != 10) = true := bne_iff_ne.mpr c25
                            obtain rfl := Option.some.inj H
                            go_wp2
                            go_ret
                            exact ⟨by first | rfl | (simp [errW_none, errW_some] <;> rfl) | (simp [*, errW_none, errW_some] <;> rfl), by repeat (first | (with_reducible first | exact HB.out | apply below_alloc | apply pw_below_drewN | apply below_drew1) | exact HB.out)⟩
                        · rw [if_neg c24] at H
                          have c24b0 : (t158.toList == (Utf8.encode a0).toList) = false := beq_eq_false_iff_ne.mpr c24
                          have c24b1 : (t158.toList != (Utf8.encode a0).toList) = true := bne_iff_ne.mpr c24
                          obtain rfl := Option.some.inj H
                          go_wp2
                          go_ret
                          exact ⟨by first | rfl | (simp [errW_none, errW_some] <;> rfl) | (simp [*, errW_none, errW_some] <;> rfl), by repeat (first | (with_reducible first | exact HB.out | apply below_alloc | apply pw_below_drewN | apply below_drew1) | exact HB.out)⟩
                · rw [if_neg c17] at H
                  exact absurd H (by simp)
  · replace c3 := Bool.eq_false_iff.mpr c3
    subst c3
    have H1 : (some false) = some r := by rw [if_neg (show ¬ (false = true) by decide)] at H; exact H
    clear H
    have H := H1
    clear H1
    obtain rfl := Option.some.inj H
    go_enter Try.func4, Try.ntmps4
    go_wp2_with (first | ((with_reducible refine gate_callee (f := 13) rfl ?_); refine goesL_ (some 11) rfl rfl Try.func13 (by kernel_rfl) rfl #[] rfl (by (try simp only [List.map_toArray, List.map_cons, List.map_nil]); first | done | rfl | (simp only [List.length_drop, List.length_take]; rfl) | (simp only [ByteArray.size_extract, Nat.min_self]; rfl)) ?_; (with_reducible refine (correctorlaw5_known.calls k  false _ A2.out).mono ?_); rintro e w34 ⟨rfl, hb⟩; refine ⟨_, rfl, ?_⟩; have n0_ := Aside0.mk (below_step (by repeat (first | (with_reducible first | exact HB.out | apply below_alloc | apply pw_below_drewN | apply below_drew1) | exact HB.out)) hb); clear HB; have HB := n0_; clear n0_; (try clear hb); (try clear hb2); (try clear hk); (try clear hi)))
    go_ret
    exact ⟨by first | rfl | (simp [errW_none, errW_some] <;> rfl) | (simp [*, errW_none, errW_some] <;> rfl), by repeat (first | (with_reducible first | exact HB.out | apply below_alloc | apply pw_below_drewN | apply below_drew1) | exact HB.out)⟩

/-- THE ONE PURE STATEMENT of correctorlaw5_CharsRunes: yours. -/
def correctorlaw5_CharsRunes.Pure : Prop := ∀ (a0 : Int), (Lit.int .i32 a0).wf = true → ∃ k, correctorlaw5_CharsRunes.f k a0 = some true
theorem correctorlaw5_CharsRunes.walk (P : correctorlaw5_CharsRunes.Pure) (a0 : Int) (w : World) (w0 : (Lit.int .i32 a0).wf = true) :
    Calls Try.prog 4 #[.int .i32 a0] w fun e w' => e = .returned (.bool true) ∧ Below w.heap.size w w' := by
  obtain ⟨k, h⟩ := P a0 w0
  refine (correctorlaw5_CharsRunes.calls k a0 true w h).mono ?_
  rintro e w' ⟨rfl, hd⟩
  exact ⟨rfl, hd⟩

end Go.Proofs.Ytpigemgiegbblaa.Q
