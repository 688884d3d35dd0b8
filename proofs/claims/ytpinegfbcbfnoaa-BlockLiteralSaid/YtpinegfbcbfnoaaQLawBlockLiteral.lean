/- Proved here, in the forms of the print's contracts: what each Go function answers, and the rows of the laws over it; by a program and by hand. -/
import Derived.Test.YtpinegfbcbfnoaaQ0
import Derived.Test.YtpinegfbcbfnoaaQblock
import Derived.Test.YtpinegfbcbfnoaaQcorrectorlaw8
namespace Go.Proofs.Ytpinegfbcbfnoaa.Q
open Go.RowKit Go.Proofs.YtpinegfbcbfnoaaW.PrintWords Go.Proofs.YtpinegfbcbfnoaaW.PrintLast Go.Proofs.YtpinegfbcbfnoaaW.PrintMore
attribute [local go_sem] max2_int min2_int max_two min_two max_three min_three max_four min_four   -- for this text's walks alone
set_option linter.unusedVariables false
set_option linter.unusedSimpArgs false

/-! ### correctorlaw8_BlockLiteral: function 3 -/
mutual
def correctorlaw8_BlockLiteral.j0 : Nat → List ByteArray → Int → Bool → Option (Bool)
  | 0, _, _, _ => none
  | k + 1, x0, x1, x17 => if x17 = true then (some true) else (correctorlaw8_BlockLiteral.l0 k x0 x1 ([] : List ByteArray) (⟨#[]⟩ : ByteArray) 0)
def correctorlaw8_BlockLiteral.l0 : Nat → List ByteArray → Int → List ByteArray → ByteArray → Int → Option (Bool)
  | 0, _, _, _, _, _ => none
  | k + 1, x0, x1, x5, x6, x7 => if x7 < (x0.length : Int) then (if 0 ≤ x7 then (if (rdOf ByteArray.empty x0 x7).toList = ([] : List UInt8) then (correctorlaw8_BlockLiteral.j2 k x0 x1 x5 x6 x7 true) else (if ((rdOf ByteArray.empty x0 x7).size : Int) > 30 then (correctorlaw8_BlockLiteral.j2 k x0 x1 x5 x6 x7 true) else ((correctorlaw8_letters.f k (rdOf ByteArray.empty x0 x7)).bind fun t183 => (correctorlaw8_BlockLiteral.j2 k x0 x1 x5 x6 x7 (!t183))))) else (none)) else ((block_Text.f k (⟨#[124, 45]⟩ : ByteArray) x5).bind fun t171 => (if t171.toList = x6.toList then ((block_Text.f k (⟨#[124]⟩ : ByteArray) x5).bind fun t172 => (if x6.size + 1 ≤ 9223372036854775807 then (if t172.toList = (x6 ++ (⟨#[10]⟩ : ByteArray)).toList then ((some (([(⟨#[10]⟩ : ByteArray), (⟨#[32, 32, 10]⟩ : ByteArray)] : List ByteArray) : List ByteArray)).bind fun y173 => (if x5.length + y173.length < 8796093022208 then ((block_Text.f k (⟨#[124, 43]⟩ : ByteArray) (x5 ++ y173)).bind fun t179 => (if x6.size + 3 ≤ 9223372036854775807 then (some (t179.toList == (x6 ++ (⟨#[10, 10, 10]⟩ : ByteArray)).toList)) else (none))) else (none))) else (some false)) else (none))) else (some false)))
def correctorlaw8_BlockLiteral.j2 : Nat → List ByteArray → Int → List ByteArray → ByteArray → Int → Bool → Option (Bool)
  | 0, _, _, _, _, _, _ => none
  | k + 1, x0, x1, x5, x6, x7, x44 => if x44 = true then (some true) else ((correctorlaw8_within.f x1 9).bind fun t184 => (if 0 ≤ t184 then (if t184 ≤ 10 then (if 0 ≤ x7 then (if x7 < (x0.length : Int) then (if ((⟨#[32, 32, 32, 32, 32, 32, 32, 32, 32, 32]⟩ : ByteArray).extract 0 (t184 : Int).toNat).size + (rdOf ByteArray.empty x0 x7).size ≤ 9223372036854775807 then (if (((⟨#[32, 32, 32, 32, 32, 32, 32, 32, 32, 32]⟩ : ByteArray).extract 0 (t184 : Int).toNat) ++ (rdOf ByteArray.empty x0 x7)).size + 1 ≤ 9223372036854775807 then (if x5.length < 8796093022208 then ((some (x5 ++ [(((⟨#[32, 32, 32, 32, 32, 32, 32, 32, 32, 32]⟩ : ByteArray).extract 0 (t184 : Int).toNat) ++ (rdOf ByteArray.empty x0 x7)) ++ (⟨#[10]⟩ : ByteArray)] : List ByteArray)).bind fun y186 => (if x7 > 0 then (if x6.size + 1 ≤ 9223372036854775807 then (if (x6 ++ (⟨#[10]⟩ : ByteArray)).size + (rdOf ByteArray.empty x0 x7).size ≤ 9223372036854775807 then (correctorlaw8_BlockLiteral.l0 k x0 x1 y186 ((x6 ++ (⟨#[10]⟩ : ByteArray)) ++ (rdOf ByteArray.empty x0 x7)) (wrap64 (x7 + 1))) else (none)) else (none)) else (if x6.size + (rdOf ByteArray.empty x0 x7).size ≤ 9223372036854775807 then (correctorlaw8_BlockLiteral.l0 k x0 x1 y186 (x6 ++ (rdOf ByteArray.empty x0 x7)) (wrap64 (x7 + 1))) else (none)))) else (none)) else (none)) else (none)) else (none)) else (none)) else (none)) else (none)))
end
def correctorlaw8_BlockLiteral.f (k : Nat) (l0 : List ByteArray) (a1 : Int) : Option (Bool) := (correctorlaw8_known.f k).bind fun t170 => (if t170 = true then (if (l0.length : Int) = 0 then (correctorlaw8_BlockLiteral.j0 k l0 a1 true) else (correctorlaw8_BlockLiteral.j0 k l0 a1 (decide ((l0.length : Int) > 12)))) else (some false))
theorem correctorlaw8_BlockLiteral.mono_l : ∀ k, (∀ y0 y1 y2, LeO (correctorlaw8_BlockLiteral.j0 k y0 y1 y2) (correctorlaw8_BlockLiteral.j0 (k + 1) y0 y1 y2)) ∧ (∀ y0 y1 y2 y3 y4, LeO (correctorlaw8_BlockLiteral.l0 k y0 y1 y2 y3 y4) (correctorlaw8_BlockLiteral.l0 (k + 1) y0 y1 y2 y3 y4)) ∧ (∀ y0 y1 y2 y3 y4 y5, LeO (correctorlaw8_BlockLiteral.j2 k y0 y1 y2 y3 y4 y5) (correctorlaw8_BlockLiteral.j2 (k + 1) y0 y1 y2 y3 y4 y5))
  | 0 => ⟨fun _ _ _ r h => by simp [correctorlaw8_BlockLiteral.j0] at h, fun _ _ _ _ _ r h => by simp [correctorlaw8_BlockLiteral.l0] at h, fun _ _ _ _ _ _ r h => by simp [correctorlaw8_BlockLiteral.j2] at h⟩
  | k + 1 => by
    obtain ⟨ih0, ih1, ih2⟩ := correctorlaw8_BlockLiteral.mono_l k
    refine ⟨?_, ?_, ?_⟩
    · intro y0 y1 y2
      unfold correctorlaw8_BlockLiteral.j0
      repeat' first
      | (with_reducible exact ih0 _ _ _)
      | (with_reducible exact ih1 _ _ _ _ _)
      | (with_reducible exact ih2 _ _ _ _ _ _)
      | (with_reducible exact block_Text.mono _ _ _)
      | (with_reducible exact correctorlaw8_known.mono _)
      | (with_reducible exact correctorlaw8_letters.mono _ _)
      | (with_reducible exact LeO.refl _)
      | (with_reducible exact LeO.none _)
      | (with_reducible refine LeO.ite ?_ ?_)
      | (with_reducible refine LeO.bind ?_ (fun _ => ?_))
      | exact ih0 _ _ _
      | exact ih1 _ _ _ _ _
      | exact ih2 _ _ _ _ _ _
      | exact block_Text.mono _ _ _
      | exact correctorlaw8_known.mono _
      | exact correctorlaw8_letters.mono _ _
      | exact LeO.none _
      | refine LeO.ite ?_ ?_
      | refine LeO.bind ?_ (fun _ => ?_)
    · intro y0 y1 y2 y3 y4
      unfold correctorlaw8_BlockLiteral.l0
      repeat' first
      | (with_reducible exact ih0 _ _ _)
      | (with_reducible exact ih1 _ _ _ _ _)
      | (with_reducible exact ih2 _ _ _ _ _ _)
      | (with_reducible exact block_Text.mono _ _ _)
      | (with_reducible exact correctorlaw8_known.mono _)
      | (with_reducible exact correctorlaw8_letters.mono _ _)
      | (with_reducible exact LeO.refl _)
      | (with_reducible exact LeO.none _)
      | (with_reducible refine LeO.ite ?_ ?_)
      | (with_reducible refine LeO.bind ?_ (fun _ => ?_))
      | exact ih0 _ _ _
      | exact ih1 _ _ _ _ _
      | exact ih2 _ _ _ _ _ _
      | exact block_Text.mono _ _ _
      | exact correctorlaw8_known.mono _
      | exact correctorlaw8_letters.mono _ _
      | exact LeO.none _
      | refine LeO.ite ?_ ?_
      | refine LeO.bind ?_ (fun _ => ?_)
    · intro y0 y1 y2 y3 y4 y5
      unfold correctorlaw8_BlockLiteral.j2
      repeat' first
      | (with_reducible exact ih0 _ _ _)
      | (with_reducible exact ih1 _ _ _ _ _)
      | (with_reducible exact ih2 _ _ _ _ _ _)
      | (with_reducible exact block_Text.mono _ _ _)
      | (with_reducible exact correctorlaw8_known.mono _)
      | (with_reducible exact correctorlaw8_letters.mono _ _)
      | (with_reducible exact LeO.refl _)
      | (with_reducible exact LeO.none _)
      | (with_reducible refine LeO.ite ?_ ?_)
      | (with_reducible refine LeO.bind ?_ (fun _ => ?_))
      | exact ih0 _ _ _
      | exact ih1 _ _ _ _ _
      | exact ih2 _ _ _ _ _ _
      | exact block_Text.mono _ _ _
      | exact correctorlaw8_known.mono _
      | exact correctorlaw8_letters.mono _ _
      | exact LeO.none _
      | refine LeO.ite ?_ ?_
      | refine LeO.bind ?_ (fun _ => ?_)
theorem correctorlaw8_BlockLiteral.mono : ∀ a0 a1 k, LeO (correctorlaw8_BlockLiteral.f k a0 a1) (correctorlaw8_BlockLiteral.f (k + 1) a0 a1) := by
  intro a0 a1 k
  obtain ⟨ih0, ih1, ih2⟩ := correctorlaw8_BlockLiteral.mono_l k
  unfold correctorlaw8_BlockLiteral.f
  repeat' first
      | (with_reducible exact ih0 _ _ _)
      | (with_reducible exact ih1 _ _ _ _ _)
      | (with_reducible exact ih2 _ _ _ _ _ _)
      | (with_reducible exact block_Text.mono _ _ _)
      | (with_reducible exact correctorlaw8_known.mono _)
      | (with_reducible exact correctorlaw8_letters.mono _ _)
      | (with_reducible exact LeO.refl _)
      | (with_reducible exact LeO.none _)
      | (with_reducible refine LeO.ite ?_ ?_)
      | (with_reducible refine LeO.bind ?_ (fun _ => ?_))
      | exact ih0 _ _ _
      | exact ih1 _ _ _ _ _
      | exact ih2 _ _ _ _ _ _
      | exact block_Text.mono _ _ _
      | exact correctorlaw8_known.mono _
      | exact correctorlaw8_letters.mono _ _
      | exact LeO.none _
      | refine LeO.ite ?_ ?_
      | refine LeO.bind ?_ (fun _ => ?_)
def correctorlaw8_BlockLiteral.T12 : Bool × List (List Nat × List Nat) := (true, [([], []), ([], []), ([1], [1]), ([2], [2]), ([], []), ([], []), ([4, 5], [4, 5]), ([6], [6]), ([3, 7], [3, 7]), ([8], [8]), ([9], [9]), ([0, 10, 2], [0, 10]), ([11, 11, 0, 1, 2, 3, 4, 5, 6, 7, 8, 9, 10, 11], [0, 11])])
def correctorlaw8_BlockLiteral.B12 : List Nat := [0, 0, 2, 6, 0, 0, 48, 112, 254, 510, 1022, 2047, 4095]
theorem correctorlaw8_BlockLiteral.tab12 : rtab .any (opsOf Try.f3 12) = correctorlaw8_BlockLiteral.T12 := by kernel_rfl
theorem correctorlaw8_BlockLiteral.bits12 : waitsOk correctorlaw8_BlockLiteral.T12.2 correctorlaw8_BlockLiteral.B12 = true := by kernel_rfl
set_option maxHeartbeats 8000000 in
set_option maxRecDepth 100000 in
theorem correctorlaw8_BlockLiteral.calls (k : Nat) (A0 : Option Addr) (c0 : Nat) (l0 : List ByteArray) (a1 : Int) (r : Bool) (w : World) (hr0 : Kd.C Kd.string w A0 l0.length l0) (hc0 : l0.length ≤ c0) (h : correctorlaw8_BlockLiteral.f k l0 a1 = some r) :
    Calls Try.prog 3 #[.slice A0 l0.length c0, .int .i64 a1] w fun e w' => e = .returned (.bool r) ∧ Below w.heap.size w w' := by
  have HR0 := Aside0.mk hr0
  have HC0 := Aside0.mk hc0
  clear hr0 hc0
  have HB := Aside0.mk (Below.refl w.heap.size w)
  have H : ((correctorlaw8_known.f k).bind fun t170 => (if t170 = true then (if (l0.length : Int) = 0 then (correctorlaw8_BlockLiteral.j0 k l0 a1 true) else (correctorlaw8_BlockLiteral.j0 k l0 a1 (decide ((l0.length : Int) > 12)))) else (some false))) = some r := h
  clear h
  replace H := Option.bind_eq_some_iff.mp H
  obtain ⟨t170, A30, H⟩ := H
  replace H : (if t170 = true then (if (l0.length : Int) = 0 then (correctorlaw8_BlockLiteral.j0 k l0 a1 true) else (correctorlaw8_BlockLiteral.j0 k l0 a1 (decide ((l0.length : Int) > 12)))) else (some false)) = some r := H
  have A3 := Aside0.mk A30
  clear A30
  by_cases c4 : t170 = true
  · subst c4
    have H1 : (if (l0.length : Int) = 0 then (correctorlaw8_BlockLiteral.j0 k l0 a1 true) else (correctorlaw8_BlockLiteral.j0 k l0 a1 (decide ((l0.length : Int) > 12)))) = some r := by rw [if_pos rfl] at H; exact H
    clear H
    have H := H1
    clear H1
    have HC5 := Aside0.mk H
    clear H
    go_enter Try.func3, Try.ntmps3
    go_upto_region 3 with (first | ((with_reducible refine gate_callee (f := 8) rfl ?_); refine goesL_ (some 8) rfl rfl Try.func8 (by kernel_rfl) rfl #[] rfl (by (try simp only [List.map_toArray, List.map_cons, List.map_nil]); first | done | rfl | (simp only [List.length_drop, List.length_take]; rfl) | (simp only [ByteArray.size_extract, Nat.min_self]; done) | (simp only [ByteArray.size_extract, Nat.min_self]; rfl)) ?_; (with_reducible refine (correctorlaw8_known.calls k  true _ A3.out).mono ?_); rintro e w6 ⟨rfl, hb⟩; refine ⟨_, rfl, ?_⟩; have n0_ := Aside0.mk (below_step (by repeat (first | (with_reducible first | exact HB.out | apply below_alloc | apply pw_below_drewN | apply below_drew1) | exact HB.out)) hb); clear HB; have HB := n0_; clear n0_; (try clear hb); (try clear hb2); (try clear hk); (try clear hi)))
    (try simp only [Act.put, List.setIfInBounds_toArray, List.set_cons_zero, List.set_cons_succ])
    go_cut [17] (fun v17 wc => ∃ (kq : Nat) (x17_4 : Bool), v17 = .bool x17_4 ∧ Aside0 (correctorlaw8_BlockLiteral.j0 kq l0 a1 x17_4 = some r) ∧ Aside0 (kq ≤ k) ∧ Aside0 (Below w.heap.size w wc))
    case first =>
      have H := HC5.out
      clear HC5
      by_cases c7 : (l0.length : Int) = 0
      · rw [if_pos c7] at H
        have c7b0 : ((l0.length : Int) == 0) = true := beq_iff_eq.mpr c7
        have c7b1 : ((l0.length : Int) != 0) = false := bne_eq_false_iff_eq.mpr c7
        clear c7
        (first | rw [c7b0] | (simp only [i64_w, i32_w]; rw [c7b0]) | rw [c7b1] | skip)
        have H' := Aside0.mk H
        clear H
        go_wp2
        go_meet
        case rel => exact ⟨_, (true), (by first | rfl | (simp; done) | (simp [*]; done)), H', ⟨by first | omega | exact Nat.le_refl _⟩, ⟨by repeat (first | (with_reducible first | exact HB.out | apply below_alloc | apply pw_below_drewN | apply below_drew1) | exact HB.out)⟩⟩
      · rw [if_neg c7] at H
        have c7b0 : ((l0.length : Int) == 0) = false := beq_eq_false_iff_ne.mpr c7
        have c7b1 : ((l0.length : Int) != 0) = true := bne_iff_ne.mpr c7
        have c7b2 : ¬ (l0 = []) := fun h_ => c7 (by rw [h_]; rfl)
        (first | rw [c7b0] | (simp only [i64_w, i32_w]; rw [c7b0]) | rw [c7b1] | skip)
        have H' := Aside0.mk H
        clear H
        go_wp2
        go_meet
        case rel => exact ⟨_, (decide ((l0.length : Int) > 12)), (by first | rfl | (simp; done) | (simp [*]; done)), H', ⟨by first | omega | exact Nat.le_refl _⟩, ⟨by repeat (first | (with_reducible first | exact HB.out | apply below_alloc | apply pw_below_drewN | apply below_drew1) | exact HB.out)⟩⟩
    case rest =>
      clear HC5
      try clear p2
      try clear c3
      try clear c4
      try clear c7
      try clear c7b0
      try clear c7b1
      try clear c7b2
      obtain ⟨kq, x17_4, rfl, HA, HJ4, HB⟩ := hcut
      cases kq with
      | zero => exact absurd HA.out (by simp [correctorlaw8_BlockLiteral.j0])
      | succ kj4 =>
        have H := HA.out
        clear HA
        simp only [correctorlaw8_BlockLiteral.j0] at H
        by_cases c8 : x17_4 = true
        · subst c8
          have H1 : (some true) = some r := by rw [if_pos rfl] at H; exact H
          clear H
          have H := H1
          clear H1
          obtain rfl := Option.some.inj H
          go_wp2
          go_ret
          exact ⟨by first | rfl | (simp [errW_none, errW_some] <;> rfl) | (simp [*, errW_none, errW_some] <;> rfl), by repeat (first | (with_reducible first | exact HB.out | apply below_alloc | apply pw_below_drewN | apply below_drew1) | exact HB.out)⟩
        · replace c8 := Bool.eq_false_iff.mpr c8
          subst c8
          have H1 : (correctorlaw8_BlockLiteral.l0 kj4 l0 a1 ([] : List ByteArray) (⟨#[]⟩ : ByteArray) 0) = some r := by rw [if_neg (show ¬ (false = true) by decide)] at H; exact H
          clear H
          have H := H1
          clear H1
          have H' := Aside0.mk H
          clear H
          go_wp2
          go_loopg [5, 6, 7] kj4 (fun kq v5 v6 v7 w' => ∃ (x5_2 : List ByteArray) (x6_2 : ByteArray) (x7_2 : Int), v6 = .string x6_2 ∧ v7 = .int .i64 x7_2 ∧ Aside0 (correctorlaw8_BlockLiteral.l0 kq l0 a1 x5_2 x6_2 x7_2 = some r) ∧ Aside0 (kq ≤ kj4) ∧ Aside0 (Kd.R Kd.string 9 w' w.heap.size (fun _ => True) v5 x5_2) ∧ Aside0 (Below w.heap.size w w'))
          case atStart => exact ⟨(([] : List ByteArray)), ((⟨#[]⟩ : ByteArray)), (0), (by first | rfl | (simp; done) | (simp [*]; done)), (by first | rfl | (simp; done) | (simp [*]; done)), H', ⟨Nat.le_refl _⟩, ⟨by first | exact Kd.R_nil _ _ _ _ _ | exact Kd.N_nil _ _ _ _ _ | exact Kd.V_nil _ _ _ _ _ | exact Kd.Q_nil _ _ _ _ _ | exact Kd.S_nil _ _ _ _ _⟩, ⟨by repeat (first | (with_reducible first | exact HB.out | apply below_alloc | apply pw_below_drewN | apply below_drew1) | exact HB.out)⟩⟩
          case round =>
            clear H'
            try clear p2
            try clear c3
            try clear c4
            try clear c7
            try clear c7b0
            try clear c7b1
            try clear c7b2
            try clear c8
            try clear p2
            obtain ⟨x5_2, x6_2, x7_2, rfl, rfl, HA, HK2, HO_5, HB⟩ := hrel
            cases gk with
            | zero => exact absurd HA.out (by simp [correctorlaw8_BlockLiteral.l0])
            | succ k2 =>
              have H := HA.out
              clear HA
              simp only [correctorlaw8_BlockLiteral.l0] at H
              by_cases c9 : x7_2 < (l0.length : Int)
              · rw [if_pos c9] at H
                have c9b0 : decide (x7_2 < (l0.length : Int)) = true := decide_eq_true c9
                clear c9
                have HC10 := Aside0.mk H
                clear H
                go_upto_region 10 with (fail)
                go_cut [44] (fun v44 wc => ∃ (kq : Nat) (x44_9 : Bool), v44 = .bool x44_9 ∧ Aside0 (correctorlaw8_BlockLiteral.j2 kq l0 a1 x5_2 x6_2 x7_2 x44_9 = some r) ∧ Aside0 (kq ≤ k2) ∧ Aside0 (Kd.R Kd.string 9 wc w.heap.size (fun _ => True) u5 x5_2) ∧ Aside0 (Below w.heap.size w wc))
                case first =>
                  have H := HC10.out
                  clear HC10
                  by_cases c11 : 0 ≤ x7_2
                  · rw [if_pos c11] at H
                    have c11b0 : decide (0 ≤ x7_2) = true := decide_eq_true c11
                    clear c11
                    (first | rw [c11b0] | (simp only [i64_w, i32_w]; rw [c11b0]) | rw [c11b1] | skip)
                    by_cases c12 : (rdOf ByteArray.empty l0 x7_2).toList = ([] : List UInt8)
                    · rw [if_pos c12] at H
                      have c12b0 : ((rdOf ByteArray.empty l0 x7_2).toList == ([] : List UInt8)) = true := beq_iff_eq.mpr c12
                      have c12b1 : ((rdOf ByteArray.empty l0 x7_2).toList != ([] : List UInt8)) = false := bne_eq_false_iff_eq.mpr c12
                      (try (have c12b2 : ((rdOf ByteArray.empty l0 x7_2).toList).isEmpty = true := by simpa using c12))
                      clear c12
                      have H' := Aside0.mk H
                      clear H
                      have p180 : 0 ≤ (x7_2 : Int) := of_decide_eq_true (by first | (with_reducible assumption) | assumption)
                      have q180 : x7_2 < (l0.length : Int) := of_decide_eq_true (by first | (with_reducible assumption) | assumption)
                      obtain ⟨ad180, e180, hx180_0⟩ := Kd.at_string HR0.out x7_2 p180 q180
                      cases e180
                      replace hx180_0 := (HB.out.cell (World.block_lt_of_cell? w _ hx180_0)).trans hx180_0
                      replace p180 := eq_true p180
                      replace q180 := eq_true q180
                      go_wp2
                      go_meet
                      case rel => exact ⟨_, (true), (by first | rfl | (simp; done) | (simp [*]; done)), H', ⟨by have := HJ4.out; have := HK2.out; first | omega | exact Nat.le_refl _⟩, ⟨by (with_reducible repeat (first | apply Kd.R_alloc | apply Kd.R_drewN | apply Kd.R_drew)); exact HO_5.out⟩, ⟨by repeat (first | (with_reducible first | exact HB.out | apply below_alloc | apply pw_below_drewN | apply below_drew1) | exact HB.out)⟩⟩
                    · rw [if_neg c12] at H
                      have c12b0 : ((rdOf ByteArray.empty l0 x7_2).toList == ([] : List UInt8)) = false := beq_eq_false_iff_ne.mpr c12
                      have c12b1 : ((rdOf ByteArray.empty l0 x7_2).toList != ([] : List UInt8)) = true := bne_iff_ne.mpr c12
                      (try (have c12b2 : ((rdOf ByteArray.empty l0 x7_2).toList).isEmpty = false := by simpa using c12))
                      by_cases c13 : ((rdOf ByteArray.empty l0 x7_2).size : Int) > 30
                      · rw [if_pos c13] at H
                        have c13b0 : decide (30 < ((rdOf ByteArray.empty l0 x7_2).size : Int)) = true := decide_eq_true c13
                        have c13b1 : decide (30 < (rdOf ByteArray.empty l0 x7_2).size) = true := decide_eq_true (by omega)
                        clear c13
                        have H' := Aside0.mk H
                        clear H
                        have p180 : 0 ≤ (x7_2 : Int) := of_decide_eq_true (by first | (with_reducible assumption) | assumption)
                        have q180 : x7_2 < (l0.length : Int) := of_decide_eq_true (by first | (with_reducible assumption) | assumption)
                        obtain ⟨ad180, e180, hx180_0⟩ := Kd.at_string HR0.out x7_2 p180 q180
                        cases e180
                        replace hx180_0 := (HB.out.cell (World.block_lt_of_cell? w _ hx180_0)).trans hx180_0
                        replace p180 := eq_true p180
                        replace q180 := eq_true q180
                        have p181 : 0 ≤ (x7_2 : Int) := of_decide_eq_true (by first | (with_reducible assumption) | assumption)
                        have q181 : x7_2 < (l0.length : Int) := of_decide_eq_true (by first | (with_reducible assumption) | assumption)
                        obtain ⟨ad181, e181, hx181_0⟩ := Kd.at_string HR0.out x7_2 p181 q181
                        obtain rfl : ad180 = ad181 := (by injection e181)
                        replace hx181_0 := (HB.out.cell (World.block_lt_of_cell? w _ hx181_0)).trans hx181_0
                        replace p181 := eq_true p181
                        replace q181 := eq_true q181
                        go_wp2
                        go_meet
                        case rel => exact ⟨_, (true), (by first | rfl | (simp; done) | (simp [*]; done)), H', ⟨by have := HJ4.out; have := HK2.out; first | omega | exact Nat.le_refl _⟩, ⟨by (with_reducible repeat (first | apply Kd.R_alloc | apply Kd.R_drewN | apply Kd.R_drew)); exact HO_5.out⟩, ⟨by repeat (first | (with_reducible first | exact HB.out | apply below_alloc | apply pw_below_drewN | apply below_drew1) | exact HB.out)⟩⟩
                      · rw [if_neg c13] at H
                        have c13b0 : decide (30 < ((rdOf ByteArray.empty l0 x7_2).size : Int)) = false := decide_eq_false c13
                        have c13b1 : decide (30 < (rdOf ByteArray.empty l0 x7_2).size) = false := decide_eq_false (by omega)
                        clear c13
                        replace H := Option.bind_eq_some_iff.mp H
                        obtain ⟨t183, A140, H⟩ := H
                        replace H : (correctorlaw8_BlockLiteral.j2 k2 l0 a1 x5_2 x6_2 x7_2 (!t183)) = some r := H
                        have A14 := Aside0.mk A140
                        clear A140
                        have H' := Aside0.mk H
                        clear H
                        have p180 : 0 ≤ (x7_2 : Int) := of_decide_eq_true (by first | (with_reducible assumption) | assumption)
                        have q180 : x7_2 < (l0.length : Int) := of_decide_eq_true (by first | (with_reducible assumption) | assumption)
                        obtain ⟨ad180, e180, hx180_0⟩ := Kd.at_string HR0.out x7_2 p180 q180
                        cases e180
                        replace hx180_0 := (HB.out.cell (World.block_lt_of_cell? w _ hx180_0)).trans hx180_0
                        replace p180 := eq_true p180
                        replace q180 := eq_true q180
                        have p181 : 0 ≤ (x7_2 : Int) := of_decide_eq_true (by first | (with_reducible assumption) | assumption)
                        have q181 : x7_2 < (l0.length : Int) := of_decide_eq_true (by first | (with_reducible assumption) | assumption)
                        obtain ⟨ad181, e181, hx181_0⟩ := Kd.at_string HR0.out x7_2 p181 q181
                        obtain rfl : ad180 = ad181 := (by injection e181)
                        replace hx181_0 := (HB.out.cell (World.block_lt_of_cell? w _ hx181_0)).trans hx181_0
                        replace p181 := eq_true p181
                        replace q181 := eq_true q181
                        have p182 : 0 ≤ (x7_2 : Int) := of_decide_eq_true (by first | (with_reducible assumption) | assumption)
                        have q182 : x7_2 < (l0.length : Int) := of_decide_eq_true (by first | (with_reducible assumption) | assumption)
                        obtain ⟨ad182, e182, hx182_0⟩ := Kd.at_string HR0.out x7_2 p182 q182
                        obtain rfl : ad180 = ad182 := (by injection e182)
                        replace hx182_0 := (HB.out.cell (World.block_lt_of_cell? w _ hx182_0)).trans hx182_0
                        replace p182 := eq_true p182
                        replace q182 := eq_true q182
                        go_wp2_with (first | (go_at_call 9; (with_reducible refine (correctorlaw8_letters.calls k2 (rdOf ByteArray.empty l0 x7_2) t183 _ A14.out).mono ?_); rintro e w' ⟨rfl, ⟨nd, rfl⟩⟩))
                        go_meet
                        case rel => exact ⟨_, (!t183), (by first | rfl | (simp; done) | (simp [*]; done)), H', ⟨by have := HJ4.out; have := HK2.out; first | omega | exact Nat.le_refl _⟩, ⟨by (with_reducible repeat (first | apply Kd.R_alloc | apply Kd.R_drewN | apply Kd.R_drew)); exact HO_5.out⟩, ⟨by repeat (first | (with_reducible first | exact HB.out | apply below_alloc | apply pw_below_drewN | apply below_drew1) | exact HB.out)⟩⟩
                  · rw [if_neg c11] at H
                    exact absurd H (by simp)
                case rest =>
                  clear HC10
                  try clear c1
                  try clear p1
                  try clear q1
                  try clear hx1
                  try clear p2
                  try clear c3
                  try clear c4
                  try clear c7
                  try clear c7b0
                  try clear c7b1
                  try clear c7b2
                  try clear c8
                  try clear c9
                  try clear c9b0
                  try clear c11
                  try clear c11b0
                  try clear c11b1
                  try clear c12
                  try clear c12b0
                  try clear c12b1
                  try clear c12b2
                  try clear c13
                  try clear c13b0
                  try clear c13b1
                  try clear hx180_0
                  try clear hx181_0
                  try clear hx182_0
                  try clear p180
                  try clear p181
                  try clear p182
                  try clear p2
                  try clear q180
                  try clear q181
                  try clear q182
                  obtain ⟨kq, x44_9, rfl, HA, HJ9, HO_5, HB⟩ := hcut
                  cases kq with
                  | zero => exact absurd HA.out (by simp [correctorlaw8_BlockLiteral.j2])
                  | succ kj9 =>
                    have H := HA.out
                    clear HA
                    simp only [correctorlaw8_BlockLiteral.j2] at H
                    by_cases c15 : x44_9 = true
                    · subst c15
                      have H1 : (some true) = some r := by rw [if_pos rfl] at H; exact H
                      clear H
                      have H := H1
                      clear H1
                      obtain rfl := Option.some.inj H
                      go_wp2
                      go_ret
                      exact ⟨by first | rfl | (simp [errW_none, errW_some] <;> rfl) | (simp [*, errW_none, errW_some] <;> rfl), by repeat (first | (with_reducible first | exact HB.out | apply below_alloc | apply pw_below_drewN | apply below_drew1) | exact HB.out)⟩
                    · replace c15 := Bool.eq_false_iff.mpr c15
                      subst c15
                      have H1 : ((correctorlaw8_within.f a1 9).bind fun t184 => (if 0 ≤ t184 then (if t184 ≤ 10 then (if 0 ≤ x7_2 then (if x7_2 < (l0.length : Int) then (if ((⟨#[32, 32, 32, 32, 32, 32, 32, 32, 32, 32]⟩ : ByteArray).extract 0 (t184 : Int).toNat).size + (rdOf ByteArray.empty l0 x7_2).size ≤ 9223372036854775807 then (if (((⟨#[32, 32, 32, 32, 32, 32, 32, 32, 32, 32]⟩ : ByteArray).extract 0 (t184 : Int).toNat) ++ (rdOf ByteArray.empty l0 x7_2)).size + 1 ≤ 9223372036854775807 then (if x5_2.length < 8796093022208 then ((some (x5_2 ++ [(((⟨#[32, 32, 32, 32, 32, 32, 32, 32, 32, 32]⟩ : ByteArray).extract 0 (t184 : Int).toNat) ++ (rdOf ByteArray.empty l0 x7_2)) ++ (⟨#[10]⟩ : ByteArray)] : List ByteArray)).bind fun y186 => (if x7_2 > 0 then (if x6_2.size + 1 ≤ 9223372036854775807 then (if (x6_2 ++ (⟨#[10]⟩ : ByteArray)).size + (rdOf ByteArray.empty l0 x7_2).size ≤ 9223372036854775807 then (correctorlaw8_BlockLiteral.l0 kj9 l0 a1 y186 ((x6_2 ++ (⟨#[10]⟩ : ByteArray)) ++ (rdOf ByteArray.empty l0 x7_2)) (wrap64 (x7_2 + 1))) else (none)) else (none)) else (if x6_2.size + (rdOf ByteArray.empty l0 x7_2).size ≤ 9223372036854775807 then (correctorlaw8_BlockLiteral.l0 kj9 l0 a1 y186 (x6_2 ++ (rdOf ByteArray.empty l0 x7_2)) (wrap64 (x7_2 + 1))) else (none)))) else (none)) else (none)) else (none)) else (none)) else (none)) else (none)) else (none))) = some r := by rw [if_neg (show ¬ (false = true) by decide)] at H; exact H
                      clear H
                      have H := H1
                      clear H1
                      replace H := Option.bind_eq_some_iff.mp H
                      obtain ⟨t184, A160, H⟩ := H
                      replace H : (if 0 ≤ t184 then (if t184 ≤ 10 then (if 0 ≤ x7_2 then (if x7_2 < (l0.length : Int) then (if ((⟨#[32, 32, 32, 32, 32, 32, 32, 32, 32, 32]⟩ : ByteArray).extract 0 (t184 : Int).toNat).size + (rdOf ByteArray.empty l0 x7_2).size ≤ 9223372036854775807 then (if (((⟨#[32, 32, 32, 32, 32, 32, 32, 32, 32, 32]⟩ : ByteArray).extract 0 (t184 : Int).toNat) ++ (rdOf ByteArray.empty l0 x7_2)).size + 1 ≤ 9223372036854775807 then (if x5_2.length < 8796093022208 then ((some (x5_2 ++ [(((⟨#[32, 32, 32, 32, 32, 32, 32, 32, 32, 32]⟩ : ByteArray).extract 0 (t184 : Int).toNat) ++ (rdOf ByteArray.empty l0 x7_2)) ++ (⟨#[10]⟩ : ByteArray)] : List ByteArray)).bind fun y186 => (if x7_2 > 0 then (if x6_2.size + 1 ≤ 9223372036854775807 then (if (x6_2 ++ (⟨#[10]⟩ : ByteArray)).size + (rdOf ByteArray.empty l0 x7_2).size ≤ 9223372036854775807 then (correctorlaw8_BlockLiteral.l0 kj9 l0 a1 y186 ((x6_2 ++ (⟨#[10]⟩ : ByteArray)) ++ (rdOf ByteArray.empty l0 x7_2)) (wrap64 (x7_2 + 1))) else (none)) else (none)) else (if x6_2.size + (rdOf ByteArray.empty l0 x7_2).size ≤ 9223372036854775807 then (correctorlaw8_BlockLiteral.l0 kj9 l0 a1 y186 (x6_2 ++ (rdOf ByteArray.empty l0 x7_2)) (wrap64 (x7_2 + 1))) else (none)))) else (none)) else (none)) else (none)) else (none)) else (none)) else (none)) else (none)) = some r := H
                      have A16 := Aside0.mk A160
                      clear A160
                      by_cases c17 : 0 ≤ t184
                      · rw [if_pos c17] at H
                        have c17b0 := eq_true c17
                        have c17b1 : decide (0 ≤ t184) = true := decide_eq_true c17
                        clear c17
                        by_cases c18 : t184 ≤ 10
                        · rw [if_pos c18] at H
                          have c18b0 := eq_true c18
                          have c18b1 : decide (t184 ≤ 10) = true := decide_eq_true c18
                          clear c18
                          by_cases c19 : 0 ≤ x7_2
                          · rw [if_pos c19] at H
                            have c19b0 : decide (0 ≤ x7_2) = true := decide_eq_true c19
                            clear c19
                            by_cases c20 : x7_2 < (l0.length : Int)
                            · rw [if_pos c20] at H
                              have c20b0 : decide (x7_2 < (l0.length : Int)) = true := decide_eq_true c20
                              clear c20
                              by_cases c21 : ((⟨#[32, 32, 32, 32, 32, 32, 32, 32, 32, 32]⟩ : ByteArray).extract 0 (t184 : Int).toNat).size + (rdOf ByteArray.empty l0 x7_2).size ≤ 9223372036854775807
                              · rw [if_pos c21] at H
                                (try (have c21v : (9223372036854775807 < t184.toNat + (rdOf ByteArray.empty l0 x7_2).size) = False := eq_false (by have h_ := c21; simp only [ByteArray.size_append, ByteArray.size_extract] at h_; have e_0 : t184 ≤ 10 := of_eq_true (by assumption); have z_0 : (⟨#[32, 32, 32, 32, 32, 32, 32, 32, 32, 32]⟩ : ByteArray).size = 10 := rfl; have y_0 : (⟨#[32, 32, 32, 32, 32, 32, 32, 32, 32, 32]⟩ : ByteArray).size = 10 := rfl; omega)))
                                have c21b0 := eq_true c21
                                have c21b1 : decide (((⟨#[32, 32, 32, 32, 32, 32, 32, 32, 32, 32]⟩ : ByteArray).extract 0 (t184 : Int).toNat).size + (rdOf ByteArray.empty l0 x7_2).size ≤ 9223372036854775807) = true := decide_eq_true c21
                                try have c21b2 : (9223372036854775807 < ((⟨#[32, 32, 32, 32, 32, 32, 32, 32, 32, 32]⟩ : ByteArray).extract 0 (t184 : Int).toNat).size + (rdOf ByteArray.empty l0 x7_2).size) = False := eq_false (Nat.not_lt.2 c21)
                                by_cases c22 : (((⟨#[32, 32, 32, 32, 32, 32, 32, 32, 32, 32]⟩ : ByteArray).extract 0 (t184 : Int).toNat) ++ (rdOf ByteArray.empty l0 x7_2)).size + 1 ≤ 9223372036854775807
                                · rw [if_pos c22] at H
                                  (try (have c22v : (9223372036854775807 < t184.toNat + (rdOf ByteArray.empty l0 x7_2).size + 1) = False := eq_false (by have h_ := c22; simp only [ByteArray.size_append, ByteArray.size_extract] at h_; have e_0 : t184 ≤ 10 := of_eq_true (by assumption); have z_0 : (⟨#[32, 32, 32, 32, 32, 32, 32, 32, 32, 32]⟩ : ByteArray).size = 10 := rfl; have y_0 : (⟨#[32, 32, 32, 32, 32, 32, 32, 32, 32, 32]⟩ : ByteArray).size = 10 := rfl; omega)))
                                  have c22b0 := eq_true c22
                                  have c22b1 : decide ((((⟨#[32, 32, 32, 32, 32, 32, 32, 32, 32, 32]⟩ : ByteArray).extract 0 (t184 : Int).toNat) ++ (rdOf ByteArray.empty l0 x7_2)).size + 1 ≤ 9223372036854775807) = true := decide_eq_true c22
                                  try have c22b2 : (9223372036854775807 < (((⟨#[32, 32, 32, 32, 32, 32, 32, 32, 32, 32]⟩ : ByteArray).extract 0 (t184 : Int).toNat) ++ (rdOf ByteArray.empty l0 x7_2)).size + 1) = False := eq_false (Nat.not_lt.2 c22)
                                  by_cases c23 : x5_2.length < 8796093022208
                                  · rw [if_pos c23] at H
                                    have LMc23 := Aside0.mk c23
                                    clear c23
                                    obtain ⟨y186, hy186⟩ : ∃ y_ : List ByteArray, y_ = (x5_2 ++ [(((⟨#[32, 32, 32, 32, 32, 32, 32, 32, 32, 32]⟩ : ByteArray).extract 0 (t184 : Int).toNat) ++ (rdOf ByteArray.empty l0 x7_2)) ++ (⟨#[10]⟩ : ByteArray)]) := ⟨_, rfl⟩
                                    replace H : (if x7_2 > 0 then (if x6_2.size + 1 ≤ 9223372036854775807 then (if (x6_2 ++ (⟨#[10]⟩ : ByteArray)).size + (rdOf ByteArray.empty l0 x7_2).size ≤ 9223372036854775807 then (correctorlaw8_BlockLiteral.l0 kj9 l0 a1 y186 ((x6_2 ++ (⟨#[10]⟩ : ByteArray)) ++ (rdOf ByteArray.empty l0 x7_2)) (wrap64 (x7_2 + 1))) else (none)) else (none)) else (if x6_2.size + (rdOf ByteArray.empty l0 x7_2).size ≤ 9223372036854775807 then (correctorlaw8_BlockLiteral.l0 kj9 l0 a1 y186 (x6_2 ++ (rdOf ByteArray.empty l0 x7_2)) (wrap64 (x7_2 + 1))) else (none))) = some r := by first | (rw [hy186]; with_reducible exact H) | (have H2_ := (Option.bind_some _ _).symm.trans H; rw [hy186]; with_reducible exact H2_) | (have H2_ := (Option.bind_some _ _).symm.trans H; with_reducible exact H2_) | with_reducible exact H | (rw [hy186]; exact H) | exact H
                                    have Ny186 := Aside0.mk hy186
                                    clear hy186
                                    by_cases c24 : x7_2 > 0
                                    · rw [if_pos c24] at H
                                      have c24b0 : decide (0 < x7_2) = true := decide_eq_true c24
                                      clear c24
                                      by_cases c25 : x6_2.size + 1 ≤ 9223372036854775807
                                      · rw [if_pos c25] at H
                                        (try (have c25v : (9223372036854775807 < x6_2.size + 1) = False := eq_false (by have h_ := c25; simp only [ByteArray.size_append, ByteArray.size_extract] at h_; omega)))
                                        have c25b0 := eq_true c25
                                        have c25b1 : decide (x6_2.size + 1 ≤ 9223372036854775807) = true := decide_eq_true c25
                                        try have c25b2 : (9223372036854775807 < x6_2.size + 1) = False := eq_false (Nat.not_lt.2 c25)
                                        by_cases c26 : (x6_2 ++ (⟨#[10]⟩ : ByteArray)).size + (rdOf ByteArray.empty l0 x7_2).size ≤ 9223372036854775807
                                        · rw [if_pos c26] at H
                                          (try (have c26v : (9223372036854775807 < x6_2.size + 1 + (rdOf ByteArray.empty l0 x7_2).size) = False := eq_false (by have h_ := c26; simp only [ByteArray.size_append, ByteArray.size_extract] at h_; have y_0 : (⟨#[10]⟩ : ByteArray).size = 1 := rfl; omega)))
                                          have c26b0 := eq_true c26
                                          have c26b1 : decide ((x6_2 ++ (⟨#[10]⟩ : ByteArray)).size + (rdOf ByteArray.empty l0 x7_2).size ≤ 9223372036854775807) = true := decide_eq_true c26
                                          try have c26b2 : (9223372036854775807 < (x6_2 ++ (⟨#[10]⟩ : ByteArray)).size + (rdOf ByteArray.empty l0 x7_2).size) = False := eq_false (Nat.not_lt.2 c26)
                                          have H' := Aside0.mk H
                                          clear H
                                          try go_wp2
                                          have n0_ := Aside0.mk (Kd.R_drew HO_5.out)
                                          have n1_ := Aside0.mk (below_drew1 HB.out)
                                          clear HO_5
                                          clear HB
                                          have HO_5 := n0_
                                          have HB := n1_
                                          clear n0_ n1_
                                          have p185 : 0 ≤ (x7_2 : Int) := of_decide_eq_true (by first | (with_reducible assumption) | assumption)
                                          have q185 : x7_2 < (l0.length : Int) := of_decide_eq_true (by first | (with_reducible assumption) | assumption)
                                          obtain ⟨ad185, e185, hx185_0⟩ := Kd.at_string HR0.out x7_2 p185 q185
                                          have hw185_0 := hx185_0
                                          cases e185
                                          replace hx185_0 := (HB.out.cell (World.block_lt_of_cell? w _ hx185_0)).trans hx185_0
                                          replace p185 := eq_true p185
                                          replace q185 := eq_true q185
                                          refine start_ (n := 13) (S := fun w' => w'.cell? (ad185.add (x7_2).toNat) = some (.string (rdOf ByteArray.empty l0 x7_2))) (ds := []) #[false, false, false, false, false, false, false, false, false, false, false, false, false] (by kernel_rfl) rfl rfl (((HB.out.cell (World.block_lt_of_cell? w _ hw185_0)).trans hw185_0)) (fun hHeld => ?_); refine with_tabW correctorlaw8_BlockLiteral.tab12 correctorlaw8_BlockLiteral.bits12 (fun HT_ HW_ => ?_)
                                          generalize wc.drew = w27 at HO_5 HB hx185_0 hHeld ⊢
                                          refine pure_ (i := 0) (N := some 45) (v := ?_) (a' := ?_) #[true, false, false, false, false, false, false, false, false, false, false, false, false] rfl rfl (any_of HT_.out (by kernel_rfl)) (fun _ _ _ h => h) (Or.inl ⟨by rfl, ?_⟩) ?_ ?_
                                          rotate_left
                                          · intro w'
                                            go_simp
                                            with_reducible rfl
                                          rotate_left
                                          · simp only [Act.put, List.setIfInBounds_toArray, List.set_cons_zero, List.set_cons_succ, i64_w, i32_w]
                                            rfl
                                          refine pure_ (i := 1) (N := some 46) (v := ?_) (a' := ?_) #[true, true, false, false, false, false, false, false, false, false, false, false, false] rfl rfl (any_of HT_.out (by kernel_rfl)) (fun _ _ _ h => h) (Or.inl ⟨by rfl, ?_⟩) ?_ ?_
                                          rotate_left
                                          · intro w'
                                            go_simp
                                            with_reducible rfl
                                          rotate_left
                                          · simp only [Act.put, List.setIfInBounds_toArray, List.set_cons_zero, List.set_cons_succ, i64_w, i32_w]
                                            rfl
                                          refine pure_ (i := 4) (N := some 49) (v := ?_) (a' := ?_) #[true, true, false, false, true, false, false, false, false, false, false, false, false] rfl rfl (any_of HT_.out (by kernel_rfl)) (fun _ _ _ h => h) (Or.inl ⟨by rfl, ?_⟩) ?_ ?_
                                          rotate_left
                                          · intro w'
                                            go_simp
                                            with_reducible rfl
                                          rotate_left
                                          · simp only [Act.put, List.setIfInBounds_toArray, List.set_cons_zero, List.set_cons_succ, i64_w, i32_w]
                                            rfl
                                          refine pure_ (i := 5) (N := some 50) (v := ?_) (a' := ?_) #[true, true, false, false, true, true, false, false, false, false, false, false, false] rfl rfl (any_of HT_.out (by kernel_rfl)) (fun _ _ _ h => h) (Or.inl ⟨by rfl, ?_⟩) ?_ ?_
                                          rotate_left
                                          · intro w'
                                            go_simp
                                            with_reducible rfl
                                          rotate_left
                                          · simp only [Act.put, List.setIfInBounds_toArray, List.set_cons_zero, List.set_cons_succ, i64_w, i32_w]
                                            rfl
                                          refine pure_ (i := 6) (N := some 51) (v := ?_) (a' := ?_) #[true, true, false, false, true, true, true, false, false, false, false, false, false] rfl rfl (any_of HT_.out (by kernel_rfl)) (fun _ _ _ h => h) (Or.inl ⟨by rfl, ?_⟩) ?_ ?_
                                          rotate_left
                                          · intro w'
                                            go_simp
                                            with_reducible rfl
                                          rotate_left
                                          · simp only [Act.put, List.setIfInBounds_toArray, List.set_cons_zero, List.set_cons_succ, i64_w, i32_w]
                                            rfl
                                          refine take_ (i := 7) (N := some 52) (v := ?_) (a' := ?_) #[true, true, false, false, true, true, true, true, false, false, false, false, false] rfl rfl (take_ofW HT_.out HW_.out (by kernel_rfl)) (fun _ _ _ h => h) (Or.inl ⟨by rfl, ?_⟩) hHeld ?_ ?_
                                          rotate_left
                                          · intro w' s0
                                            go_simp
                                            with_reducible rfl
                                          rotate_left
                                          · simp only [Act.put, List.setIfInBounds_toArray, List.set_cons_zero, List.set_cons_succ, i64_w, i32_w]
                                            rfl
                                          refine one_ (i := 2) (N := some 47) #[true, true, true, false, true, true, true, true, false, false, false, false, false] rfl rfl (one_of HT_.out (by kernel_rfl)) (by decide) (fun K hK => ?_)
                                          refine goes_ Try.func10 (by kernel_rfl) rfl #[.int .i64 a1, .int .i64 9] (by rfl) rfl rfl (by (try simp only [List.map_toArray, List.map_cons, List.map_nil]); first | done | rfl | (simp only [List.length_drop, List.length_take]; rfl) | (simp only [ByteArray.size_extract, Nat.min_self]; done) | (simp only [ByteArray.size_extract, Nat.min_self]; rfl)) ?_
                                          with_reducible refine (correctorlaw8_within.calls a1 9 t184 _ A16.out).mono ?_
                                          rintro e w' ⟨rfl, ⟨nd, rfl⟩⟩
                                          refine ⟨_, rfl, ?_⟩
                                          refine hK.out _ _ (((HB.out.cell (World.block_lt_of_cell? w _ hw185_0)).trans hw185_0)) (fun hHeld => ?_)
                                          clear hK K
                                          refine norm_ (a' := ?_) ?_ ?_
                                          rotate_left
                                          · show Act.put _ (some 47) _ = _
                                            simp only [Act.put, List.setIfInBounds_toArray, List.set_cons_zero, List.set_cons_succ, i64_w, i32_w]
                                            rfl
                                          refine pure_ (i := 3) (N := some 48) (v := ?_) (a' := ?_) #[true, true, true, true, true, true, true, true, false, false, false, false, false] rfl rfl (any_of HT_.out (by kernel_rfl)) (fun _ _ _ h => h) (Or.inl ⟨by rfl, ?_⟩) ?_ ?_
                                          rotate_left
                                          · intro w'
                                            go_simp
                                            with_reducible rfl
                                          rotate_left
                                          · simp only [Act.put, List.setIfInBounds_toArray, List.set_cons_zero, List.set_cons_succ, i64_w, i32_w]
                                            rfl
                                          refine pure_ (i := 8) (N := some 53) (v := ?_) (a' := ?_) #[true, true, true, true, true, true, true, true, true, false, false, false, false] rfl rfl (any_of HT_.out (by kernel_rfl)) (fun _ _ _ h => h) (Or.inl ⟨by rfl, ?_⟩) ?_ ?_
                                          rotate_left
                                          · intro w'
                                            go_simp
                                            with_reducible rfl
                                          rotate_left
                                          · simp only [Act.put, List.setIfInBounds_toArray, List.set_cons_zero, List.set_cons_succ, i64_w, i32_w]
                                            rfl
                                          refine pure_ (i := 9) (N := some 54) (v := ?_) (a' := ?_) #[true, true, true, true, true, true, true, true, true, true, false, false, false] rfl rfl (any_of HT_.out (by kernel_rfl)) (fun _ _ _ h => h) (Or.inl ⟨by rfl, ?_⟩) ?_ ?_
                                          rotate_left
                                          · intro w'
                                            go_simp
                                            with_reducible rfl
                                          rotate_left
                                          · simp only [Act.put, List.setIfInBounds_toArray, List.set_cons_zero, List.set_cons_succ, i64_w, i32_w]
                                            rfl
                                          refine one_ (i := 10) (N := some 55) #[true, true, true, true, true, true, true, true, true, true, true, false, false] rfl rfl (one_of HT_.out (by kernel_rfl)) (by decide) (fun K hK => ?_)
                                          refine value_ (w1 := ?_) (v := ?_) (by rfl) rfl ?_ ?_
                                          rotate_left 2
                                          · go_simp
                                            constructor
                                            · rfl
                                            · rfl
                                          refine hK.out _ _ ((World.cell?_alloc_lt _ _ _ (World.block_lt_of_cell? _ _ (((HB.out.cell (World.block_lt_of_cell? w _ hw185_0)).trans hw185_0)))).trans (((HB.out.cell (World.block_lt_of_cell? w _ hw185_0)).trans hw185_0))) (fun hHeld => ?_)
                                          clear hK K
                                          refine norm_ (a' := ?_) ?_ ?_
                                          rotate_left
                                          · show Act.put _ (some 55) _ = _
                                            simp only [Act.put, List.setIfInBounds_toArray, List.set_cons_zero, List.set_cons_succ, i64_w, i32_w]
                                            rfl
                                          refine one_ (i := 11) (N := some 56) #[true, true, true, true, true, true, true, true, true, true, true, true, false] rfl rfl (one_of HT_.out (by kernel_rfl)) (by decide) (fun K hK => ?_)
                                          refine Kd.R_append_step Kd.string (w0 := w) w.heap.size (by rfl) (.tmp 45) (.tmp 55) 22 9 (.string ⟨#[]⟩) 16 rfl Try.underlying22 info9 rfl (by decide) (by omega) u5 x5_2 ((((⟨#[32, 32, 32, 32, 32, 32, 32, 32, 32, 32]⟩ : ByteArray).extract 0 (t184 : Int).toNat) ++ (rdOf ByteArray.empty l0 x7_2)) ++ (⟨#[10]⟩ : ByteArray)) [.string ((((⟨#[32, 32, 32, 32, 32, 32, 32, 32, 32, 32]⟩ : ByteArray).extract 0 (t184 : Int).toNat) ++ (rdOf ByteArray.empty l0 x7_2)) ++ (⟨#[10]⟩ : ByteArray))] (fun _ => True) (fun _ => False) rfl rfl ?aP (fun _ hk => hk.elim) ?aF ?aO ?aB ?aS ?aL ?_
                                          (case aP => exact rfl)
                                          (case aB => exact (by repeat (first | (with_reducible first | exact HB.out | apply below_alloc | apply pw_below_drewN | apply below_drew1) | exact HB.out)))
                                          (case aF => exact (fun _ _ => trivial))
                                          (case aO => exact (by (with_reducible repeat (first | apply Kd.R_alloc | apply Kd.R_drewN | apply Kd.R_drew)); exact HO_5.out))
                                          (case aS => exact (below_size (by repeat (first | (with_reducible first | exact HB.out | apply below_alloc | apply pw_below_drewN | apply below_drew1) | exact HB.out))))
                                          (case aL => have := LMc23.out; omega)
                                          intro v187 w28 ho hb hg hat
                                          rw [← Ny186.out] at ho
                                          have n0_ := Aside0.mk (hb)
                                          have n1_ := Aside0.mk (ho)
                                          clear HB
                                          clear HO_5
                                          have HB := n0_
                                          have HO188 := n1_
                                          clear n0_ n1_
                                          clear ho hb hg hat
                                          refine hK.out _ _ (((HB.out.cell (World.block_lt_of_cell? w _ hw185_0)).trans hw185_0)) (fun hHeld => ?_)
                                          clear hK K
                                          refine norm_ (a' := ?_) ?_ ?_
                                          rotate_left
                                          · show Act.put _ (some 56) _ = _
                                            simp only [Act.put, List.setIfInBounds_toArray, List.set_cons_zero, List.set_cons_succ, i64_w, i32_w]
                                            rfl
                                          refine pure_ (i := 12) (N := some 5) (v := ?_) (a' := ?_) #[true, true, true, true, true, true, true, true, true, true, true, true, true] rfl rfl (any_of HT_.out (by kernel_rfl)) (fun _ _ _ h => h) (Or.inl ⟨by rfl, ?_⟩) ?_ ?_
                                          rotate_left
                                          · intro w'
                                            go_simp
                                            with_reducible rfl
                                          rotate_left
                                          · simp only [Act.put, List.setIfInBounds_toArray, List.set_cons_zero, List.set_cons_succ, i64_w, i32_w]
                                            rfl
                                          refine done_ (done_of HT_.out (by kernel_rfl)) ?_
                                          have p189 : 0 ≤ (x7_2 : Int) := of_decide_eq_true (by first | (with_reducible assumption) | assumption)
                                          have q189 : x7_2 < (l0.length : Int) := of_decide_eq_true (by first | (with_reducible assumption) | assumption)
                                          obtain ⟨ad189, e189, hx189_0⟩ := Kd.at_string HR0.out x7_2 p189 q189
                                          obtain rfl : ad185 = ad189 := (by injection e189)
                                          replace hx189_0 := (HB.out.cell (World.block_lt_of_cell? w _ hx189_0)).trans hx189_0
                                          replace p189 := eq_true p189
                                          replace q189 := eq_true q189
                                          try go_wp2
                                          go_roundg kj9
                                          case measure => have := HJ4.out; have := HK2.out; have := HJ9.out; omega
                                          case rel => exact ⟨(y186), ((x6_2 ++ (⟨#[10]⟩ : ByteArray)) ++ (rdOf ByteArray.empty l0 x7_2)), (wrap64 (x7_2 + 1)), (by first | rfl | (simp; done) | (simp [*]; done)), (by first | rfl | (simp; done) | (simp [*]; done)), H', ⟨by have := HJ4.out; have := HK2.out; have := HJ9.out; omega⟩, ⟨by (with_reducible repeat (first | apply Kd.R_alloc | apply Kd.R_drewN | apply Kd.R_drew)); exact HO188.out⟩, ⟨by repeat (first | (with_reducible first | exact HB.out | apply below_alloc | apply pw_below_drewN | apply below_drew1) | exact HB.out)⟩⟩
                                        · rw [if_neg c26] at H
                                          exact absurd H (by simp)
                                      · rw [if_neg c25] at H
                                        exact absurd H (by simp)
                                    · rw [if_neg c24] at H
                                      have c24b0 : decide (0 < x7_2) = false := decide_eq_false c24
                                      clear c24
                                      by_cases c29 : x6_2.size + (rdOf ByteArray.empty l0 x7_2).size ≤ 9223372036854775807
                                      · rw [if_pos c29] at H
                                        (try (have c29v : (9223372036854775807 < x6_2.size + (rdOf ByteArray.empty l0 x7_2).size) = False := eq_false (by have h_ := c29; simp only [ByteArray.size_append, ByteArray.size_extract] at h_; omega)))
                                        have c29b0 := eq_true c29
                                        have c29b1 : decide (x6_2.size + (rdOf ByteArray.empty l0 x7_2).size ≤ 9223372036854775807) = true := decide_eq_true c29
                                        try have c29b2 : (9223372036854775807 < x6_2.size + (rdOf ByteArray.empty l0 x7_2).size) = False := eq_false (Nat.not_lt.2 c29)
                                        have H' := Aside0.mk H
                                        clear H
                                        try go_wp2
                                        have n0_ := Aside0.mk (Kd.R_drew HO_5.out)
                                        have n1_ := Aside0.mk (below_drew1 HB.out)
                                        clear HO_5
                                        clear HB
                                        have HO_5 := n0_
                                        have HB := n1_
                                        clear n0_ n1_
                                        have p185 : 0 ≤ (x7_2 : Int) := of_decide_eq_true (by first | (with_reducible assumption) | assumption)
                                        have q185 : x7_2 < (l0.length : Int) := of_decide_eq_true (by first | (with_reducible assumption) | assumption)
                                        obtain ⟨ad185, e185, hx185_0⟩ := Kd.at_string HR0.out x7_2 p185 q185
                                        have hw185_0 := hx185_0
                                        cases e185
                                        replace hx185_0 := (HB.out.cell (World.block_lt_of_cell? w _ hx185_0)).trans hx185_0
                                        replace p185 := eq_true p185
                                        replace q185 := eq_true q185
                                        refine start_ (n := 13) (S := fun w' => w'.cell? (ad185.add (x7_2).toNat) = some (.string (rdOf ByteArray.empty l0 x7_2))) (ds := []) #[false, false, false, false, false, false, false, false, false, false, false, false, false] (by kernel_rfl) rfl rfl (((HB.out.cell (World.block_lt_of_cell? w _ hw185_0)).trans hw185_0)) (fun hHeld => ?_); refine with_tabW correctorlaw8_BlockLiteral.tab12 correctorlaw8_BlockLiteral.bits12 (fun HT_ HW_ => ?_)
                                        generalize wc.drew = w30 at HO_5 HB hx185_0 hHeld ⊢
                                        refine pure_ (i := 0) (N := some 45) (v := ?_) (a' := ?_) #[true, false, false, false, false, false, false, false, false, false, false, false, false] rfl rfl (any_of HT_.out (by kernel_rfl)) (fun _ _ _ h => h) (Or.inl ⟨by rfl, ?_⟩) ?_ ?_
                                        rotate_left
                                        · intro w'
                                          go_simp
                                          with_reducible rfl
                                        rotate_left
                                        · simp only [Act.put, List.setIfInBounds_toArray, List.set_cons_zero, List.set_cons_succ, i64_w, i32_w]
                                          rfl
                                        refine pure_ (i := 1) (N := some 46) (v := ?_) (a' := ?_) #[true, true, false, false, false, false, false, false, false, false, false, false, false] rfl rfl (any_of HT_.out (by kernel_rfl)) (fun _ _ _ h => h) (Or.inl ⟨by rfl, ?_⟩) ?_ ?_
                                        rotate_left
                                        · intro w'
                                          go_simp
                                          with_reducible rfl
                                        rotate_left
                                        · simp only [Act.put, List.setIfInBounds_toArray, List.set_cons_zero, List.set_cons_succ, i64_w, i32_w]
                                          rfl
                                        refine pure_ (i := 4) (N := some 49) (v := ?_) (a' := ?_) #[true, true, false, false, true, false, false, false, false, false, false, false, false] rfl rfl (any_of HT_.out (by kernel_rfl)) (fun _ _ _ h => h) (Or.inl ⟨by rfl, ?_⟩) ?_ ?_
                                        rotate_left
                                        · intro w'
                                          go_simp
                                          with_reducible rfl
                                        rotate_left
                                        · simp only [Act.put, List.setIfInBounds_toArray, List.set_cons_zero, List.set_cons_succ, i64_w, i32_w]
                                          rfl
                                        refine pure_ (i := 5) (N := some 50) (v := ?_) (a' := ?_) #[true, true, false, false, true, true, false, false, false, false, false, false, false] rfl rfl (any_of HT_.out (by kernel_rfl)) (fun _ _ _ h => h) (Or.inl ⟨by rfl, ?_⟩) ?_ ?_
                                        rotate_left
                                        · intro w'
                                          go_simp
                                          with_reducible rfl
                                        rotate_left
                                        · simp only [Act.put, List.setIfInBounds_toArray, List.set_cons_zero, List.set_cons_succ, i64_w, i32_w]
                                          rfl
                                        refine pure_ (i := 6) (N := some 51) (v := ?_) (a' := ?_) #[true, true, false, false, true, true, true, false, false, false, false, false, false] rfl rfl (any_of HT_.out (by kernel_rfl)) (fun _ _ _ h => h) (Or.inl ⟨by rfl, ?_⟩) ?_ ?_
                                        rotate_left
                                        · intro w'
                                          go_simp
                                          with_reducible rfl
                                        rotate_left
                                        · simp only [Act.put, List.setIfInBounds_toArray, List.set_cons_zero, List.set_cons_succ, i64_w, i32_w]
                                          rfl
                                        refine take_ (i := 7) (N := some 52) (v := ?_) (a' := ?_) #[true, true, false, false, true, true, true, true, false, false, false, false, false] rfl rfl (take_ofW HT_.out HW_.out (by kernel_rfl)) (fun _ _ _ h => h) (Or.inl ⟨by rfl, ?_⟩) hHeld ?_ ?_
                                        rotate_left
                                        · intro w' s0
                                          go_simp
                                          with_reducible rfl
                                        rotate_left
                                        · simp only [Act.put, List.setIfInBounds_toArray, List.set_cons_zero, List.set_cons_succ, i64_w, i32_w]
                                          rfl
                                        refine one_ (i := 2) (N := some 47) #[true, true, true, false, true, true, true, true, false, false, false, false, false] rfl rfl (one_of HT_.out (by kernel_rfl)) (by decide) (fun K hK => ?_)
                                        refine goes_ Try.func10 (by kernel_rfl) rfl #[.int .i64 a1, .int .i64 9] (by rfl) rfl rfl (by (try simp only [List.map_toArray, List.map_cons, List.map_nil]); first | done | rfl | (simp only [List.length_drop, List.length_take]; rfl) | (simp only [ByteArray.size_extract, Nat.min_self]; done) | (simp only [ByteArray.size_extract, Nat.min_self]; rfl)) ?_
                                        with_reducible refine (correctorlaw8_within.calls a1 9 t184 _ A16.out).mono ?_
                                        rintro e w' ⟨rfl, ⟨nd, rfl⟩⟩
                                        refine ⟨_, rfl, ?_⟩
                                        refine hK.out _ _ (((HB.out.cell (World.block_lt_of_cell? w _ hw185_0)).trans hw185_0)) (fun hHeld => ?_)
                                        clear hK K
                                        refine norm_ (a' := ?_) ?_ ?_
                                        rotate_left
                                        · show Act.put _ (some 47) _ = _
                                          simp only [Act.put, List.setIfInBounds_toArray, List.set_cons_zero, List.set_cons_succ, i64_w, i32_w]
                                          rfl
                                        refine pure_ (i := 3) (N := some 48) (v := ?_) (a' := ?_) #[true, true, true, true, true, true, true, true, false, false, false, false, false] rfl rfl (any_of HT_.out (by kernel_rfl)) (fun _ _ _ h => h) (Or.inl ⟨by rfl, ?_⟩) ?_ ?_
                                        rotate_left
                                        · intro w'
                                          go_simp
                                          with_reducible rfl
                                        rotate_left
                                        · simp only [Act.put, List.setIfInBounds_toArray, List.set_cons_zero, List.set_cons_succ, i64_w, i32_w]
                                          rfl
                                        refine pure_ (i := 8) (N := some 53) (v := ?_) (a' := ?_) #[true, true, true, true, true, true, true, true, true, false, false, false, false] rfl rfl (any_of HT_.out (by kernel_rfl)) (fun _ _ _ h => h) (Or.inl ⟨by rfl, ?_⟩) ?_ ?_
                                        rotate_left
                                        · intro w'
                                          go_simp
                                          with_reducible rfl
                                        rotate_left
                                        · simp only [Act.put, List.setIfInBounds_toArray, List.set_cons_zero, List.set_cons_succ, i64_w, i32_w]
                                          rfl
                                        refine pure_ (i := 9) (N := some 54) (v := ?_) (a' := ?_) #[true, true, true, true, true, true, true, true, true, true, false, false, false] rfl rfl (any_of HT_.out (by kernel_rfl)) (fun _ _ _ h => h) (Or.inl ⟨by rfl, ?_⟩) ?_ ?_
                                        rotate_left
                                        · intro w'
                                          go_simp
                                          with_reducible rfl
                                        rotate_left
                                        · simp only [Act.put, List.setIfInBounds_toArray, List.set_cons_zero, List.set_cons_succ, i64_w, i32_w]
                                          rfl
                                        refine one_ (i := 10) (N := some 55) #[true, true, true, true, true, true, true, true, true, true, true, false, false] rfl rfl (one_of HT_.out (by kernel_rfl)) (by decide) (fun K hK => ?_)
                                        refine value_ (w1 := ?_) (v := ?_) (by rfl) rfl ?_ ?_
                                        rotate_left 2
                                        · go_simp
                                          constructor
                                          · rfl
                                          · rfl
                                        refine hK.out _ _ ((World.cell?_alloc_lt _ _ _ (World.block_lt_of_cell? _ _ (((HB.out.cell (World.block_lt_of_cell? w _ hw185_0)).trans hw185_0)))).trans (((HB.out.cell (World.block_lt_of_cell? w _ hw185_0)).trans hw185_0))) (fun hHeld => ?_)
                                        clear hK K
                                        refine norm_ (a' := ?_) ?_ ?_
                                        rotate_left
                                        · show Act.put _ (some 55) _ = _
                                          simp only [Act.put, List.setIfInBounds_toArray, List.set_cons_zero, List.set_cons_succ, i64_w, i32_w]
                                          rfl
                                        refine one_ (i := 11) (N := some 56) #[true, true, true, true, true, true, true, true, true, true, true, true, false] rfl rfl (one_of HT_.out (by kernel_rfl)) (by decide) (fun K hK => ?_)
                                        refine Kd.R_append_step Kd.string (w0 := w) w.heap.size (by rfl) (.tmp 45) (.tmp 55) 22 9 (.string ⟨#[]⟩) 16 rfl Try.underlying22 info9 rfl (by decide) (by omega) u5 x5_2 ((((⟨#[32, 32, 32, 32, 32, 32, 32, 32, 32, 32]⟩ : ByteArray).extract 0 (t184 : Int).toNat) ++ (rdOf ByteArray.empty l0 x7_2)) ++ (⟨#[10]⟩ : ByteArray)) [.string ((((⟨#[32, 32, 32, 32, 32, 32, 32, 32, 32, 32]⟩ : ByteArray).extract 0 (t184 : Int).toNat) ++ (rdOf ByteArray.empty l0 x7_2)) ++ (⟨#[10]⟩ : ByteArray))] (fun _ => True) (fun _ => False) rfl rfl ?aP (fun _ hk => hk.elim) ?aF ?aO ?aB ?aS ?aL ?_
                                        (case aP => exact rfl)
                                        (case aB => exact (by repeat (first | (with_reducible first | exact HB.out | apply below_alloc | apply pw_below_drewN | apply below_drew1) | exact HB.out)))
                                        (case aF => exact (fun _ _ => trivial))
                                        (case aO => exact (by (with_reducible repeat (first | apply Kd.R_alloc | apply Kd.R_drewN | apply Kd.R_drew)); exact HO_5.out))
                                        (case aS => exact (below_size (by repeat (first | (with_reducible first | exact HB.out | apply below_alloc | apply pw_below_drewN | apply below_drew1) | exact HB.out))))
                                        (case aL => have := LMc23.out; omega)
                                        intro v187 w31 ho hb hg hat
                                        rw [← Ny186.out] at ho
                                        have n0_ := Aside0.mk (hb)
                                        have n1_ := Aside0.mk (ho)
                                        clear HB
                                        clear HO_5
                                        have HB := n0_
                                        have HO188 := n1_
                                        clear n0_ n1_
                                        clear ho hb hg hat
                                        refine hK.out _ _ (((HB.out.cell (World.block_lt_of_cell? w _ hw185_0)).trans hw185_0)) (fun hHeld => ?_)
                                        clear hK K
                                        refine norm_ (a' := ?_) ?_ ?_
                                        rotate_left
                                        · show Act.put _ (some 56) _ = _
                                          simp only [Act.put, List.setIfInBounds_toArray, List.set_cons_zero, List.set_cons_succ, i64_w, i32_w]
                                          rfl
                                        refine pure_ (i := 12) (N := some 5) (v := ?_) (a' := ?_) #[true, true, true, true, true, true, true, true, true, true, true, true, true] rfl rfl (any_of HT_.out (by kernel_rfl)) (fun _ _ _ h => h) (Or.inl ⟨by rfl, ?_⟩) ?_ ?_
                                        rotate_left
                                        · intro w'
                                          go_simp
                                          with_reducible rfl
                                        rotate_left
                                        · simp only [Act.put, List.setIfInBounds_toArray, List.set_cons_zero, List.set_cons_succ, i64_w, i32_w]
                                          rfl
                                        refine done_ (done_of HT_.out (by kernel_rfl)) ?_
                                        have p190 : 0 ≤ (x7_2 : Int) := of_decide_eq_true (by first | (with_reducible assumption) | assumption)
                                        have q190 : x7_2 < (l0.length : Int) := of_decide_eq_true (by first | (with_reducible assumption) | assumption)
                                        obtain ⟨ad190, e190, hx190_0⟩ := Kd.at_string HR0.out x7_2 p190 q190
                                        obtain rfl : ad185 = ad190 := (by injection e190)
                                        replace hx190_0 := (HB.out.cell (World.block_lt_of_cell? w _ hx190_0)).trans hx190_0
                                        replace p190 := eq_true p190
                                        replace q190 := eq_true q190
                                        try go_wp2
                                        go_roundg kj9
                                        case measure => have := HJ4.out; have := HK2.out; have := HJ9.out; omega
                                        case rel => exact ⟨(y186), (x6_2 ++ (rdOf ByteArray.empty l0 x7_2)), (wrap64 (x7_2 + 1)), (by first | rfl | (simp; done) | (simp [*]; done)), (by first | rfl | (simp; done) | (simp [*]; done)), H', ⟨by have := HJ4.out; have := HK2.out; have := HJ9.out; omega⟩, ⟨by (with_reducible repeat (first | apply Kd.R_alloc | apply Kd.R_drewN | apply Kd.R_drew)); exact HO188.out⟩, ⟨by repeat (first | (with_reducible first | exact HB.out | apply below_alloc | apply pw_below_drewN | apply below_drew1) | exact HB.out)⟩⟩
                                      · rw [if_neg c29] at H
                                        exact absurd H (by simp)
                                  · rw [if_neg c23] at H
                                    exact absurd H (by simp)
                                · rw [if_neg c22] at H
                                  exact absurd H (by simp)
                              · rw [if_neg c21] at H
                                exact absurd H (by simp)
                            · rw [if_neg c20] at H
                              exact absurd H (by simp)
                          · rw [if_neg c19] at H
                            exact absurd H (by simp)
                        · rw [if_neg c18] at H
                          exact absurd H (by simp)
                      · rw [if_neg c17] at H
                        exact absurd H (by simp)
              · rw [if_neg c9] at H
                have c9b0 : decide (x7_2 < (l0.length : Int)) = false := decide_eq_false c9
                clear c9
                replace H := Option.bind_eq_some_iff.mp H
                obtain ⟨t171, A320, H⟩ := H
                replace H : (if t171.toList = x6_2.toList then ((block_Text.f k2 (⟨#[124]⟩ : ByteArray) x5_2).bind fun t172 => (if x6_2.size + 1 ≤ 9223372036854775807 then (if t172.toList = (x6_2 ++ (⟨#[10]⟩ : ByteArray)).toList then ((some (([(⟨#[10]⟩ : ByteArray), (⟨#[32, 32, 10]⟩ : ByteArray)] : List ByteArray) : List ByteArray)).bind fun y173 => (if x5_2.length + y173.length < 8796093022208 then ((block_Text.f k2 (⟨#[124, 43]⟩ : ByteArray) (x5_2 ++ y173)).bind fun t179 => (if x6_2.size + 3 ≤ 9223372036854775807 then (some (t179.toList == (x6_2 ++ (⟨#[10, 10, 10]⟩ : ByteArray)).toList)) else (none))) else (none))) else (some false)) else (none))) else (some false)) = some r := H
                have A32 := Aside0.mk A320
                clear A320
                by_cases c33 : t171.toList = x6_2.toList
                · rw [if_pos c33] at H
                  have c33b0 : (t171.toList == x6_2.toList) = true := beq_iff_eq.mpr c33
                  have c33b1 : (t171.toList != x6_2.toList) = false := bne_eq_false_iff_eq.mpr c33
                  clear c33
                  replace H := Option.bind_eq_some_iff.mp H
                  obtain ⟨t172, A340, H⟩ := H
                  replace H : (if x6_2.size + 1 ≤ 9223372036854775807 then (if t172.toList = (x6_2 ++ (⟨#[10]⟩ : ByteArray)).toList then ((some (([(⟨#[10]⟩ : ByteArray), (⟨#[32, 32, 10]⟩ : ByteArray)] : List ByteArray) : List ByteArray)).bind fun y173 => (if x5_2.length + y173.length < 8796093022208 then ((block_Text.f k2 (⟨#[124, 43]⟩ : ByteArray) (x5_2 ++ y173)).bind fun t179 => (if x6_2.size + 3 ≤ 9223372036854775807 then (some (t179.toList == (x6_2 ++ (⟨#[10, 10, 10]⟩ : ByteArray)).toList)) else (none))) else (none))) else (some false)) else (none)) = some r := H
                  have A34 := Aside0.mk A340
                  clear A340
                  by_cases c35 : x6_2.size + 1 ≤ 9223372036854775807
                  · rw [if_pos c35] at H
                    (try (have c35v : (9223372036854775807 < x6_2.size + 1) = False := eq_false (by have h_ := c35; simp only [ByteArray.size_append, ByteArray.size_extract] at h_; omega)))
                    have c35b0 := eq_true c35
                    have c35b1 : decide (x6_2.size + 1 ≤ 9223372036854775807) = true := decide_eq_true c35
                    try have c35b2 : (9223372036854775807 < x6_2.size + 1) = False := eq_false (Nat.not_lt.2 c35)
                    by_cases c36 : t172.toList = (x6_2 ++ (⟨#[10]⟩ : ByteArray)).toList
                    · rw [if_pos c36] at H
                      have c36b0 : (t172.toList == (x6_2 ++ (⟨#[10]⟩ : ByteArray)).toList) = true := beq_iff_eq.mpr c36
                      have c36b1 : (t172.toList != (x6_2 ++ (⟨#[10]⟩ : ByteArray)).toList) = false := bne_eq_false_iff_eq.mpr c36
                      clear c36
                      obtain ⟨y173, hy173⟩ : ∃ y_ : List ByteArray, y_ = (([(⟨#[10]⟩ : ByteArray), (⟨#[32, 32, 10]⟩ : ByteArray)] : List ByteArray)) := ⟨_, rfl⟩
                      replace H : (if x5_2.length + y173.length < 8796093022208 then ((block_Text.f k2 (⟨#[124, 43]⟩ : ByteArray) (x5_2 ++ y173)).bind fun t179 => (if x6_2.size + 3 ≤ 9223372036854775807 then (some (t179.toList == (x6_2 ++ (⟨#[10, 10, 10]⟩ : ByteArray)).toList)) else (none))) else (none)) = some r := by first | (rw [hy173]; with_reducible exact H) | (have H2_ := (Option.bind_some _ _).symm.trans H; rw [hy173]; with_reducible exact H2_) | (have H2_ := (Option.bind_some _ _).symm.trans H; with_reducible exact H2_) | with_reducible exact H | (rw [hy173]; exact H) | exact H
                      have Ny173 := Aside0.mk hy173
                      clear hy173
                      by_cases c37 : x5_2.length + y173.length < 8796093022208
                      · rw [if_pos c37] at H
                        have LMc37 := Aside0.mk c37
                        clear c37
                        obtain ⟨y176, hy176⟩ : ∃ y_ : List ByteArray, y_ = (x5_2 ++ y173) := ⟨_, rfl⟩
                        replace H : ((block_Text.f k2 (⟨#[124, 43]⟩ : ByteArray) y176).bind fun t179 => (if x6_2.size + 3 ≤ 9223372036854775807 then (some (t179.toList == (x6_2 ++ (⟨#[10, 10, 10]⟩ : ByteArray)).toList)) else (none))) = some r := by first | (rw [hy176]; with_reducible exact H) | (have H2_ := (Option.bind_some _ _).symm.trans H; rw [hy176]; with_reducible exact H2_) | (have H2_ := (Option.bind_some _ _).symm.trans H; with_reducible exact H2_) | with_reducible exact H | (rw [hy176]; exact H) | exact H
                        have Ny176 := Aside0.mk hy176
                        clear hy176
                        replace H := Option.bind_eq_some_iff.mp H
                        obtain ⟨t179, A380, H⟩ := H
                        replace H : (if x6_2.size + 3 ≤ 9223372036854775807 then (some (t179.toList == (x6_2 ++ (⟨#[10, 10, 10]⟩ : ByteArray)).toList)) else (none)) = some r := H
                        have A38 := Aside0.mk A380
                        clear A380
                        by_cases c39 : x6_2.size + 3 ≤ 9223372036854775807
                        · rw [if_pos c39] at H
                          (try (have c39v : (9223372036854775807 < x6_2.size + 3) = False := eq_false (by have h_ := c39; simp only [ByteArray.size_append, ByteArray.size_extract] at h_; omega)))
                          have c39b0 := eq_true c39
                          have c39b1 : decide (x6_2.size + 3 ≤ 9223372036854775807) = true := decide_eq_true c39
                          try have c39b2 : (9223372036854775807 < x6_2.size + 3) = False := eq_false (Nat.not_lt.2 c39)
                          obtain rfl := Option.some.inj H
                          obtain ⟨Ao40, co40, eo40⟩ := Kd.R_slice HO_5.out
                          subst eo40
                          go_wp2_with (first | ((with_reducible refine gate_callee (f := 11) rfl ?_); refine goesL_ (some 68) rfl rfl Try.func11 (by kernel_rfl) rfl #[.string (⟨#[124, 45]⟩ : ByteArray), .slice Ao40 x5_2.length co40] rfl (by (try simp only [List.map_toArray, List.map_cons, List.map_nil]); first | done | rfl | (simp only [List.length_drop, List.length_take]; rfl) | (simp only [ByteArray.size_extract, Nat.min_self]; done) | (simp only [ByteArray.size_extract, Nat.min_self]; rfl)) ?_; (with_reducible refine (block_Text.calls k2 (⟨#[124, 45]⟩ : ByteArray) _ _ x5_2 t171 _ ?side1 ?side2 A32.out).mono ?_); (case side1 => repeat (first | exact (Kd.R_reads' HO_5.out).2.2 | (with_reducible refine Kd.C_alloc ?_ _) | (with_reducible refine Kd.C_drewN ?_ _) | (with_reducible refine Kd.C_drew ?_))); (case side2 => exact (Kd.R_reads' HO_5.out).2.1); rintro e w41 ⟨rfl, hb⟩; refine ⟨_, rfl, ?_⟩; have n0_ := Aside0.mk (Kd.R_below (by (with_reducible repeat (first | apply Kd.R_alloc | apply Kd.R_drewN | apply Kd.R_drew)); exact HO_5.out) hb); have n1_ := Aside0.mk (below_step (by repeat (first | (with_reducible first | exact HB.out | apply below_alloc | apply pw_below_drewN | apply below_drew1) | exact HB.out)) hb); clear HO_5; clear HB; have HO_5 := n0_; have HB := n1_; clear n0_ n1_; (try clear hb); (try clear hb2); (try clear hk); (try clear hi)) | (go_at_call 11; (with_reducible refine (block_Text.calls k2 (⟨#[124]⟩ : ByteArray) _ _ x5_2 t172 _ ?side1 ?side2 A34.out).mono ?_); (case side1 => repeat (first | exact (Kd.R_reads' HO_5.out).2.2 | (with_reducible refine Kd.C_alloc ?_ _) | (with_reducible refine Kd.C_drewN ?_ _) | (with_reducible refine Kd.C_drew ?_))); (case side2 => exact (Kd.R_reads' HO_5.out).2.1); rintro e w42 ⟨rfl, hb⟩; have n0_ := Aside0.mk (Kd.R_below (by (with_reducible repeat (first | apply Kd.R_alloc | apply Kd.R_drewN | apply Kd.R_drew)); exact HO_5.out) hb); have n1_ := Aside0.mk (below_step (by repeat (first | (with_reducible first | exact HB.out | apply below_alloc | apply pw_below_drewN | apply below_drew1) | exact HB.out)) hb); clear HO_5; clear HB; have HO_5 := n0_; have HB := n1_; clear n0_ n1_; (try clear hb); (try clear hb2); (try clear hk); (try clear hi)) | ((with_reducible refine gate_dst (N := 80) rfl ?_); (try (refine gate_guard (by rfl) ?_; dsimp only)); refine Kd.R_lit Kd.string _ 9 ?hg (N := 80) ?hd (xs := ([(⟨#[10]⟩ : ByteArray), (⟨#[32, 32, 10]⟩ : ByteArray)] : List ByteArray)) (inner := [.string (⟨#[10]⟩ : ByteArray), .string (⟨#[32, 32, 10]⟩ : ByteArray)]) (ok := fun _ => True) (okp := fun _ => True) ?hr ?hp (fun _ hk => hk) trivial (Below.refl _ _) (Nat.le_refl _) (by simp) ?_; (case hd => rfl); (case hg => rfl); (case hr => first | (go_simp; done) | (go_simp; rfl)); (case hp => exact (Reps.one (show Kd.M Kd.string _ _ _ (⟨#[10]⟩ : ByteArray) [.string (⟨#[10]⟩ : ByteArray)] from rfl) (Reps.one (show Kd.M Kd.string _ _ _ (⟨#[32, 32, 10]⟩ : ByteArray) [.string (⟨#[32, 32, 10]⟩ : ByteArray)] from rfl) (Reps.none _ _)))); intro v174 w43 ho44 hb hg_ hnew_; clear hg_ hnew_; (first | rw [← Ny173.out] at ho44 | (simp only [Int.reduceToNat] at ho44; rw [← Ny173.out] at ho44)); have n0_ := Aside0.mk (Kd.R_elder' (by (with_reducible repeat (first | apply Kd.R_alloc | apply Kd.R_drewN | apply Kd.R_drew)); exact HO_5.out) (Kd.R_base ho44) hb); have n1_ := Aside0.mk (Kd.R_lower (Kd.R_new' ho44 (Kd.R_lt (by (with_reducible repeat (first | apply Kd.R_alloc | apply Kd.R_drewN | apply Kd.R_drew)); exact HO_5.out))) (below_size (by repeat (first | (with_reducible first | exact HB.out | apply below_alloc | apply pw_below_drewN | apply below_drew1) | exact HB.out)))); have n2_ := Aside0.mk (below_step (by repeat (first | (with_reducible first | exact HB.out | apply below_alloc | apply pw_below_drewN | apply below_drew1) | exact HB.out)) hb); clear HO_5; clear HB; have HO_5 := n0_; have HO175 := n1_; have HB := n2_; clear n0_ n1_ n2_; clear hb ho44; obtain ⟨Ao46, co46, eo46⟩ := Kd.R_slice HO175.out; subst eo46) | ((with_reducible refine gate_builtin (b := .append) (xs := #[.tmp 79, .tmp 80]) rfl ?_); (try (refine gate_guard (by rfl) ?_; dsimp only)); at_builtin; refine Kd.R_append_rows Kd.string (w0 := w) w.heap.size rfl (.tmp 79) (.tmp 80) 22 9 (.string ⟨#[]⟩) 16 rfl Try.underlying22 info9 rfl (by decide) (by omega) (.slice Ao40 x5_2.length co40) x5_2 y173 _ _ _ (fun k_ => some k_ ≠ (.slice Ao46 y173.length co46 : Value).ownBlock) (fun _ => False) rfl rfl ?aO ?aR (fun _ _ h => h) (fun _ h => h.elim) ?aF ?aB ?aS ?aL ?_; (case aR => repeat (first | exact (Kd.R_reads' HO175.out).2.2 | (with_reducible refine Kd.C_alloc ?_ _) | (with_reducible refine Kd.C_drewN ?_ _) | (with_reducible refine Kd.C_drew ?_))); (case aB => exact (by repeat (first | (with_reducible first | exact HB.out | apply below_alloc | apply pw_below_drewN | apply below_drew1) | exact HB.out))); (case aF => exact (fun k_ hk => Kd.fresh' (Kd.R_lt (by (with_reducible repeat (first | apply Kd.R_alloc | apply Kd.R_drewN | apply Kd.R_drew)); exact HO175.out)) k_ hk)); (case aO => exact (by (with_reducible repeat (first | apply Kd.R_alloc | apply Kd.R_drewN | apply Kd.R_drew)); exact Kd.R_mono HO_5.out (fun _ hk => hk.2))); (case aS => exact (below_size (by repeat (first | (with_reducible first | exact HB.out | apply below_alloc | apply pw_below_drewN | apply below_drew1) | exact HB.out)))); (case aL => have := LMc37.out; omega); intro v177 w45 ho hb hg hat; rw [← Ny176.out] at ho; have n0_ := Aside0.mk (Kd.R_after (ok := (fun _ => True)) (by (with_reducible repeat (first | apply Kd.R_alloc | apply Kd.R_drewN | apply Kd.R_drew)); exact HO175.out) hg hat); have n1_ := Aside0.mk (hb); have n2_ := Aside0.mk (ho); clear HO175; clear HB; clear HO_5; have HO175 := n0_; have HB := n1_; have HO178 := n2_; clear n0_ n1_ n2_; clear ho hb hg hat; obtain ⟨Ao47, co47, eo47⟩ := Kd.R_slice HO178.out; subst eo47) | (go_at_call 11; (with_reducible refine (block_Text.calls k2 (⟨#[124, 43]⟩ : ByteArray) _ _ y176 t179 _ ?side1 ?side2 A38.out).mono ?_); (case side1 => repeat (first | exact (Kd.R_reads' HO178.out).2.2 | (with_reducible refine Kd.C_alloc ?_ _) | (with_reducible refine Kd.C_drewN ?_ _) | (with_reducible refine Kd.C_drew ?_))); (case side2 => exact (Kd.R_reads' HO178.out).2.1); rintro e w48 ⟨rfl, hb⟩; have n0_ := Aside0.mk (Kd.R_below (by (with_reducible repeat (first | apply Kd.R_alloc | apply Kd.R_drewN | apply Kd.R_drew)); exact HO175.out) hb); have n1_ := Aside0.mk (Kd.R_below (by (with_reducible repeat (first | apply Kd.R_alloc | apply Kd.R_drewN | apply Kd.R_drew)); exact HO178.out) hb); have n2_ := Aside0.mk (below_step (by repeat (first | (with_reducible first | exact HB.out | apply below_alloc | apply pw_below_drewN | apply below_drew1) | exact HB.out)) hb); clear HO175; clear HO178; clear HB; have HO175 := n0_; have HO178 := n1_; have HB := n2_; clear n0_ n1_ n2_; (try clear hb); (try clear hb2); (try clear hk); (try clear hi)))
                          go_ret
                          exact ⟨by first | rfl | (simp [errW_none, errW_some] <;> rfl) | (simp [*, errW_none, errW_some] <;> rfl), by repeat (first | (with_reducible first | exact HB.out | apply below_alloc | apply pw_below_drewN | apply below_drew1) | exact HB.out)⟩
                        · rw [if_neg c39] at H
                          exact absurd H (by simp)
                      · rw [if_neg c37] at H
                        exact absurd H (by simp)
                    · rw [if_neg c36] at H
                      have c36b0 : (t172.toList == (x6_2 ++ (⟨#[10]⟩ : ByteArray)).toList) = false := beq_eq_false_iff_ne.mpr c36
                      have c36b1 : (t172.toList != (x6_2 ++ (⟨#[10]⟩ : ByteArray)).toList) = true := bne_iff_ne.mpr c36
                      obtain rfl := Option.some.inj H
                      obtain ⟨Ao49, co49, eo49⟩ := Kd.R_slice HO_5.out
                      subst eo49
                      go_wp2_with (first | ((with_reducible refine gate_callee (f := 11) rfl ?_); refine goesL_ (some 68) rfl rfl Try.func11 (by kernel_rfl) rfl #[.string (⟨#[124, 45]⟩ : ByteArray), .slice Ao49 x5_2.length co49] rfl (by (try simp only [List.map_toArray, List.map_cons, List.map_nil]); first | done | rfl | (simp only [List.length_drop, List.length_take]; rfl) | (simp only [ByteArray.size_extract, Nat.min_self]; done) | (simp only [ByteArray.size_extract, Nat.min_self]; rfl)) ?_; (with_reducible refine (block_Text.calls k2 (⟨#[124, 45]⟩ : ByteArray) _ _ x5_2 t171 _ ?side1 ?side2 A32.out).mono ?_); (case side1 => repeat (first | exact (Kd.R_reads' HO_5.out).2.2 | (with_reducible refine Kd.C_alloc ?_ _) | (with_reducible refine Kd.C_drewN ?_ _) | (with_reducible refine Kd.C_drew ?_))); (case side2 => exact (Kd.R_reads' HO_5.out).2.1); rintro e w50 ⟨rfl, hb⟩; refine ⟨_, rfl, ?_⟩; have n0_ := Aside0.mk (Kd.R_below (by (with_reducible repeat (first | apply Kd.R_alloc | apply Kd.R_drewN | apply Kd.R_drew)); exact HO_5.out) hb); have n1_ := Aside0.mk (below_step (by repeat (first | (with_reducible first | exact HB.out | apply below_alloc | apply pw_below_drewN | apply below_drew1) | exact HB.out)) hb); clear HO_5; clear HB; have HO_5 := n0_; have HB := n1_; clear n0_ n1_; (try clear hb); (try clear hb2); (try clear hk); (try clear hi)) | (go_at_call 11; (with_reducible refine (block_Text.calls k2 (⟨#[124]⟩ : ByteArray) _ _ x5_2 t172 _ ?side1 ?side2 A34.out).mono ?_); (case side1 => repeat (first | exact (Kd.R_reads' HO_5.out).2.2 | (with_reducible refine Kd.C_alloc ?_ _) | (with_reducible refine Kd.C_drewN ?_ _) | (with_reducible refine Kd.C_drew ?_))); (case side2 => exact (Kd.R_reads' HO_5.out).2.1); rintro e w51 ⟨rfl, hb⟩; have n0_ := Aside0.mk (Kd.R_below (by (with_reducible repeat (first | apply Kd.R_alloc | apply Kd.R_drewN | apply Kd.R_drew)); exact HO_5.out) hb); have n1_ := Aside0.mk (below_step (by repeat (first | (with_reducible first | exact HB.out | apply below_alloc | apply pw_below_drewN | apply below_drew1) | exact HB.out)) hb); clear HO_5; clear HB; have HO_5 := n0_; have HB := n1_; clear n0_ n1_; (try clear hb); (try clear hb2); (try clear hk); (try clear hi)))
                      go_ret
                      exact ⟨by first | rfl | (simp [errW_none, errW_some] <;> rfl) | (simp [*, errW_none, errW_some] <;> rfl), by repeat (first | (with_reducible first | exact HB.out | apply below_alloc | apply pw_below_drewN | apply below_drew1) | exact HB.out)⟩
                  · rw [if_neg c35] at H
                    exact absurd H (by simp)
                · rw [if_neg c33] at H
                  have c33b0 : (t171.toList == x6_2.toList) = false := beq_eq_false_iff_ne.mpr c33
                  have c33b1 : (t171.toList != x6_2.toList) = true := bne_iff_ne.mpr c33
                  obtain rfl := Option.some.inj H
                  obtain ⟨Ao52, co52, eo52⟩ := Kd.R_slice HO_5.out
                  subst eo52
                  go_wp2_with (first | ((with_reducible refine gate_callee (f := 11) rfl ?_); refine goesL_ (some 68) rfl rfl Try.func11 (by kernel_rfl) rfl #[.string (⟨#[124, 45]⟩ : ByteArray), .slice Ao52 x5_2.length co52] rfl (by (try simp only [List.map_toArray, List.map_cons, List.map_nil]); first | done | rfl | (simp only [List.length_drop, List.length_take]; rfl) | (simp only [ByteArray.size_extract, Nat.min_self]; done) | (simp only [ByteArray.size_extract, Nat.min_self]; rfl)) ?_; (with_reducible refine (block_Text.calls k2 (⟨#[124, 45]⟩ : ByteArray) _ _ x5_2 t171 _ ?side1 ?side2 A32.out).mono ?_); (case side1 => repeat (first | exact (Kd.R_reads' HO_5.out).2.2 | (with_reducible refine Kd.C_alloc ?_ _) | (with_reducible refine Kd.C_drewN ?_ _) | (with_reducible refine Kd.C_drew ?_))); (case side2 => exact (Kd.R_reads' HO_5.out).2.1); rintro e w53 ⟨rfl, hb⟩; refine ⟨_, rfl, ?_⟩; have n0_ := Aside0.mk (Kd.R_below (by (with_reducible repeat (first | apply Kd.R_alloc | apply Kd.R_drewN | apply Kd.R_drew)); exact HO_5.out) hb); have n1_ := Aside0.mk (below_step (by repeat (first | (with_reducible first | exact HB.out | apply below_alloc | apply pw_below_drewN | apply below_drew1) | exact HB.out)) hb); clear HO_5; clear HB; have HO_5 := n0_; have HB := n1_; clear n0_ n1_; (try clear hb); (try clear hb2); (try clear hk); (try clear hi)))
                  go_ret
                  exact ⟨by first | rfl | (simp [errW_none, errW_some] <;> rfl) | (simp [*, errW_none, errW_some] <;> rfl), by repeat (first | (with_reducible first | exact HB.out | apply below_alloc | apply pw_below_drewN | apply below_drew1) | exact HB.out)⟩
  · replace c4 := Bool.eq_false_iff.mpr c4
    subst c4
    have H1 : (some false) = some r := by rw [if_neg (show ¬ (false = true) by decide)] at H; exact H
    clear H
    have H := H1
    clear H1
    obtain rfl := Option.some.inj H
    go_enter Try.func3, Try.ntmps3
    go_wp2_with (first | ((with_reducible refine gate_callee (f := 8) rfl ?_); refine goesL_ (some 8) rfl rfl Try.func8 (by kernel_rfl) rfl #[] rfl (by (try simp only [List.map_toArray, List.map_cons, List.map_nil]); first | done | rfl | (simp only [List.length_drop, List.length_take]; rfl) | (simp only [ByteArray.size_extract, Nat.min_self]; done) | (simp only [ByteArray.size_extract, Nat.min_self]; rfl)) ?_; (with_reducible refine (correctorlaw8_known.calls k  false _ A3.out).mono ?_); rintro e w54 ⟨rfl, hb⟩; refine ⟨_, rfl, ?_⟩; have n0_ := Aside0.mk (below_step (by repeat (first | (with_reducible first | exact HB.out | apply below_alloc | apply pw_below_drewN | apply below_drew1) | exact HB.out)) hb); clear HB; have HB := n0_; clear n0_; (try clear hb); (try clear hb2); (try clear hk); (try clear hi)))
    go_ret
    exact ⟨by first | rfl | (simp [errW_none, errW_some] <;> rfl) | (simp [*, errW_none, errW_some] <;> rfl), by repeat (first | (with_reducible first | exact HB.out | apply below_alloc | apply pw_below_drewN | apply below_drew1) | exact HB.out)⟩

/-- THE ONE PURE STATEMENT of correctorlaw8_BlockLiteral: yours. -/
def correctorlaw8_BlockLiteral.Pure : Prop := ∀ (l0 : List ByteArray) (a1 : Int), l0.length ≤ maxLen → l0.length * 16 ≤ 140737488351232 → (∀ x ∈ l0, x.size ≤ 140737488351232) → (Lit.int .i64 a1).wf = true → ∃ k, correctorlaw8_BlockLiteral.f k l0 a1 = some true
theorem correctorlaw8_BlockLiteral.walk (P : correctorlaw8_BlockLiteral.Pure) (a0 : Option Addr) (cap0 : Nat) (l0 : List ByteArray) (a1 : Int) (w : World) (w0 : Kd.string.C w a0 l0.length l0) (y0 : l0.length ≤ cap0) (m0 : l0.length ≤ maxLen) (n0 : l0.length * 16 ≤ 140737488351232) (s0 : ∀ x ∈ l0, x.size ≤ 140737488351232) (w1 : (Lit.int .i64 a1).wf = true) :
    Calls Try.prog 3 #[.slice a0 l0.length cap0, .int .i64 a1] w fun e w' => e = .returned (.bool true) ∧ Below w.heap.size w w' := by
  obtain ⟨k, h⟩ := P l0 a1 m0 n0 s0 w1
  refine (correctorlaw8_BlockLiteral.calls k _ _ l0 a1 true w w0 y0 h).mono ?_
  rintro e w' ⟨rfl, hd⟩
  exact ⟨rfl, hd⟩

end Go.Proofs.Ytpinegfbcbfnoaa.Q
