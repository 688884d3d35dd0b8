/- Proved here, in the forms of the print's contracts: what each Go function answers, and the rows of the laws over it; by a program and by hand. -/
import Derived.Test.YtpigemgiegbblaaQ0
import Derived.Test.YtpigemgiegbblaaQstrings
namespace Go.Proofs.Ytpigemgiegbblaa.Q
open Go.RowKit Go.Proofs.YtpigemgiegbblaaW.PrintWords Go.Proofs.YtpigemgiegbblaaW.PrintLast Go.Proofs.YtpigemgiegbblaaW.PrintMore
attribute [local go_sem] max2_int min2_int max_two min_two max_three min_three max_four min_four   -- for this text's walks alone
set_option linter.unusedVariables false
set_option linter.unusedSimpArgs false

/-! ### resolve_sign: function 41 -/
def resolve_sign.f (a0 : ByteArray) : Option (ByteArray × Bool) := (strings_CutPrefix.f a0 (⟨#[45]⟩ : ByteArray)).bind fun bt210 => (if bt210.2 = true then (some (bt210.1, true)) else ((strings_TrimPrefix.f a0 (⟨#[43]⟩ : ByteArray)).bind fun t212 => (some (t212, false))))
set_option maxHeartbeats 8000000 in
set_option maxRecDepth 100000 in
theorem resolve_sign.calls (a0 : ByteArray) (r1 : ByteArray) (r2 : Bool) (w : World) (h : resolve_sign.f a0 = some (r1, r2)) :
    Calls Try.prog 41 #[.string a0] w fun e w' => e = .returned (.tuple #[.string r1, .bool r2]) ∧ Drawn0 w w' := by
  have H : ((strings_CutPrefix.f a0 (⟨#[45]⟩ : ByteArray)).bind fun bt210 => (if bt210.2 = true then (some (bt210.1, true)) else ((strings_TrimPrefix.f a0 (⟨#[43]⟩ : ByteArray)).bind fun t212 => (some (t212, false))))) = some (r1, r2) := h
  clear h
  replace H := Option.bind_eq_some_iff.mp H
  obtain ⟨⟨t210, t211⟩, A20, H⟩ := H
  replace H : (if t211 = true then (some (t210, true)) else ((strings_TrimPrefix.f a0 (⟨#[43]⟩ : ByteArray)).bind fun t212 => (some (t212, false)))) = some (r1, r2) := H
  have A2 := Aside0.mk A20
  clear A20
  by_cases c3 : t211 = true
  · subst c3
    have H1 : (some (t210, true)) = some (r1, r2) := by rw [if_pos rfl] at H; exact H
    clear H
    have H := H1
    clear H1
    simp only [Option.some.injEq, Prod.mk.injEq] at H
    obtain ⟨rfl, rfl⟩ := H
    go_enter Try.func41, Try.ntmps41
    go_wp2_with (first | ((with_reducible refine gate_callee (f := 50) rfl ?_); refine goesL_ (some 8) rfl rfl Try.func50 (by kernel_rfl) rfl #[.string a0, .string (⟨#[45]⟩ : ByteArray)] rfl (by (try simp only [List.map_toArray, List.map_cons, List.map_nil]); first | done | rfl | (simp only [List.length_drop, List.length_take]; rfl) | (simp only [ByteArray.size_extract, Nat.min_self]; done) | (simp only [ByteArray.size_extract, Nat.min_self]; rfl)) ?_; (with_reducible refine (strings_CutPrefix.calls a0 (⟨#[45]⟩ : ByteArray) t210 true _ A2.out).mono ?_); rintro e w' ⟨rfl, ⟨nd, rfl⟩⟩; refine ⟨_, rfl, ?_⟩))
    go_ret2
    exact ⟨by first | rfl | (simp; done) | (simp [*]; done), by repeat (first | exact Drawn0.refl _ | apply Drawn0.step)⟩
  · replace c3 := Bool.eq_false_iff.mpr c3
    subst c3
    have H1 : ((strings_TrimPrefix.f a0 (⟨#[43]⟩ : ByteArray)).bind fun t212 => (some (t212, false))) = some (r1, r2) := by rw [if_neg (show ¬ (false = true) by decide)] at H; exact H
    clear H
    have H := H1
    clear H1
    replace H := Option.bind_eq_some_iff.mp H
    obtain ⟨t212, A40, H⟩ := H
    replace H : (some (t212, false)) = some (r1, r2) := H
    have A4 := Aside0.mk A40
    clear A40
    simp only [Option.some.injEq, Prod.mk.injEq] at H
    obtain ⟨rfl, rfl⟩ := H
    go_enter Try.func41, Try.ntmps41
    go_wp2_with (first | ((with_reducible refine gate_callee (f := 50) rfl ?_); refine goesL_ (some 8) rfl rfl Try.func50 (by kernel_rfl) rfl #[.string a0, .string (⟨#[45]⟩ : ByteArray)] rfl (by (try simp only [List.map_toArray, List.map_cons, List.map_nil]); first | done | rfl | (simp only [List.length_drop, List.length_take]; rfl) | (simp only [ByteArray.size_extract, Nat.min_self]; done) | (simp only [ByteArray.size_extract, Nat.min_self]; rfl)) ?_; (with_reducible refine (strings_CutPrefix.calls a0 (⟨#[45]⟩ : ByteArray) t210 false _ A2.out).mono ?_); rintro e w' ⟨rfl, ⟨nd, rfl⟩⟩; refine ⟨_, rfl, ?_⟩) | ((with_reducible refine gate_callee (f := 51) rfl ?_); refine goesL_ (some 14) rfl rfl Try.func51 (by kernel_rfl) rfl #[.string a0, .string (⟨#[43]⟩ : ByteArray)] rfl (by (try simp only [List.map_toArray, List.map_cons, List.map_nil]); first | done | rfl | (simp only [List.length_drop, List.length_take]; rfl) | (simp only [ByteArray.size_extract, Nat.min_self]; done) | (simp only [ByteArray.size_extract, Nat.min_self]; rfl)) ?_; (with_reducible refine (strings_TrimPrefix.calls a0 (⟨#[43]⟩ : ByteArray) t212 _ A4.out).mono ?_); rintro e w' ⟨rfl, ⟨nd, rfl⟩⟩; refine ⟨_, rfl, ?_⟩))
    go_ret2
    exact ⟨by first | rfl | (simp; done) | (simp [*]; done), by repeat (first | exact Drawn0.refl _ | apply Drawn0.step)⟩

/-! ### resolve_value: function 53 -/
mutual
def resolve_value.j0 : Nat → Int → Int → Int → Bool → Option (Int)
  | 0, _, _, _, _ => none
  | k + 1, x0, x1, x5, x6 => if x6 = true then (if (wrap64 (wrap32 (x0 - 48))) ≥ x1 then (some (-1)) else (some (wrap64 (wrap32 (x0 - 48))))) else (if x0 ≥ 97 then (resolve_value.j1 k x0 x1 x5 (decide (x0 ≤ 102))) else (resolve_value.j1 k x0 x1 x5 false))
def resolve_value.j1 : Nat → Int → Int → Int → Bool → Option (Int)
  | 0, _, _, _, _ => none
  | k + 1, x0, x1, x5, x16 => if x16 = true then (if (wrap64 ((wrap64 (wrap32 (x0 - 97))) + 10)) ≥ x1 then (some (-1)) else (some (wrap64 ((wrap64 (wrap32 (x0 - 97))) + 10)))) else (if x0 ≥ 65 then (resolve_value.j2 k x0 x1 x5 (decide (x0 ≤ 70))) else (resolve_value.j2 k x0 x1 x5 false))
def resolve_value.j2 : Nat → Int → Int → Int → Bool → Option (Int)
  | 0, _, _, _, _ => none
  | k + 1, x0, x1, x5, x27 => if x27 = true then (if (wrap64 ((wrap64 (wrap32 (x0 - 65))) + 10)) ≥ x1 then (some (-1)) else (some (wrap64 ((wrap64 (wrap32 (x0 - 65))) + 10)))) else (if x5 ≥ x1 then (some (-1)) else (some x5))
end
def resolve_value.f (k : Nat) (a0 : Int) (a1 : Int) : Option (Int) := if a0 ≥ 48 then (resolve_value.j0 k a0 a1 (-1) (decide (a0 ≤ 57))) else (resolve_value.j0 k a0 a1 (-1) false)
theorem resolve_value.mono_l : ∀ k, (∀ y0 y1 y2 y3, LeO (resolve_value.j0 k y0 y1 y2 y3) (resolve_value.j0 (k + 1) y0 y1 y2 y3)) ∧ (∀ y0 y1 y2 y3, LeO (resolve_value.j1 k y0 y1 y2 y3) (resolve_value.j1 (k + 1) y0 y1 y2 y3)) ∧ (∀ y0 y1 y2 y3, LeO (resolve_value.j2 k y0 y1 y2 y3) (resolve_value.j2 (k + 1) y0 y1 y2 y3))
  | 0 => ⟨fun _ _ _ _ r h => by simp [resolve_value.j0] at h, fun _ _ _ _ r h => by simp [resolve_value.j1] at h, fun _ _ _ _ r h => by simp [resolve_value.j2] at h⟩
  | k + 1 => by
    obtain ⟨ih0, ih1, ih2⟩ := resolve_value.mono_l k
    refine ⟨?_, ?_, ?_⟩
    · intro y0 y1 y2 y3
      unfold resolve_value.j0
      repeat' first
      | (with_reducible exact ih0 _ _ _ _)
      | (with_reducible exact ih1 _ _ _ _)
      | (with_reducible exact ih2 _ _ _ _)
      | (with_reducible exact LeO.refl _)
      | (with_reducible exact LeO.none _)
      | (with_reducible refine LeO.ite ?_ ?_)
      | (with_reducible refine LeO.bind ?_ (fun _ => ?_))
      | exact ih0 _ _ _ _
      | exact ih1 _ _ _ _
      | exact ih2 _ _ _ _
      | exact LeO.none _
      | refine LeO.ite ?_ ?_
      | refine LeO.bind ?_ (fun _ => ?_)
    · intro y0 y1 y2 y3
      unfold resolve_value.j1
      repeat' first
      | (with_reducible exact ih0 _ _ _ _)
      | (with_reducible exact ih1 _ _ _ _)
      | (with_reducible exact ih2 _ _ _ _)
      | (with_reducible exact LeO.refl _)
      | (with_reducible exact LeO.none _)
      | (with_reducible refine LeO.ite ?_ ?_)
      | (with_reducible refine LeO.bind ?_ (fun _ => ?_))
      | exact ih0 _ _ _ _
      | exact ih1 _ _ _ _
      | exact ih2 _ _ _ _
      | exact LeO.none _
      | refine LeO.ite ?_ ?_
      | refine LeO.bind ?_ (fun _ => ?_)
    · intro y0 y1 y2 y3
      unfold resolve_value.j2
      repeat' first
      | (with_reducible exact ih0 _ _ _ _)
      | (with_reducible exact ih1 _ _ _ _)
      | (with_reducible exact ih2 _ _ _ _)
      | (with_reducible exact LeO.refl _)
      | (with_reducible exact LeO.none _)
      | (with_reducible refine LeO.ite ?_ ?_)
      | (with_reducible refine LeO.bind ?_ (fun _ => ?_))
      | exact ih0 _ _ _ _
      | exact ih1 _ _ _ _
      | exact ih2 _ _ _ _
      | exact LeO.none _
      | refine LeO.ite ?_ ?_
      | refine LeO.bind ?_ (fun _ => ?_)
theorem resolve_value.mono : ∀ a0 a1 k, LeO (resolve_value.f k a0 a1) (resolve_value.f (k + 1) a0 a1) := by
  intro a0 a1 k
  obtain ⟨ih0, ih1, ih2⟩ := resolve_value.mono_l k
  unfold resolve_value.f
  repeat' first
      | (with_reducible exact ih0 _ _ _ _)
      | (with_reducible exact ih1 _ _ _ _)
      | (with_reducible exact ih2 _ _ _ _)
      | (with_reducible exact LeO.refl _)
      | (with_reducible exact LeO.none _)
      | (with_reducible refine LeO.ite ?_ ?_)
      | (with_reducible refine LeO.bind ?_ (fun _ => ?_))
      | exact ih0 _ _ _ _
      | exact ih1 _ _ _ _
      | exact ih2 _ _ _ _
      | exact LeO.none _
      | refine LeO.ite ?_ ?_
      | refine LeO.bind ?_ (fun _ => ?_)
set_option maxHeartbeats 8000000 in
set_option maxRecDepth 100000 in
theorem resolve_value.calls (k : Nat) (a0 : Int) (a1 : Int) (r : Int) (w : World) (h : resolve_value.f k a0 a1 = some r) :
    Calls Try.prog 53 #[.int .i32 a0, .int .i64 a1] w fun e w' => e = .returned (.int .i64 r) ∧ Drawn0 w w' := by
  have H : (if a0 ≥ 48 then (resolve_value.j0 k a0 a1 (-1) (decide (a0 ≤ 57))) else (resolve_value.j0 k a0 a1 (-1) false)) = some r := h
  clear h
  have HC3 := Aside0.mk H
  clear H
  go_enter Try.func53, Try.ntmps53
  go_upto_region 2 with (fail)
  go_cut [6] (fun v6 wc => ∃ (kq : Nat) (x6_2 : Bool), v6 = .bool x6_2 ∧ Aside0 (resolve_value.j0 kq a0 a1 (-1) x6_2 = some r) ∧ Aside0 (kq ≤ k) ∧ Drawn0 w wc)
  case first =>
    have H := HC3.out
    clear HC3
    by_cases c4 : a0 ≥ 48
    · rw [if_pos c4] at H
      have c4b0 : decide (48 ≤ a0) = true := decide_eq_true c4
      clear c4
      (first | rw [c4b0] | (simp only [i64_w, i32_w]; rw [c4b0]) | skip)
      have H' := Aside0.mk H
      clear H
      go_wp2
      go_meet
      case rel => exact ⟨_, (decide (a0 ≤ 57)), (by first | rfl | (simp; done) | (simp [*]; done)), H', ⟨by first | omega | exact Nat.le_refl _⟩, by repeat (first | exact Drawn0.refl _ | apply Drawn0.step)⟩
    · rw [if_neg c4] at H
      have c4b0 : decide (48 ≤ a0) = false := decide_eq_false c4
      clear c4
      (first | rw [c4b0] | (simp only [i64_w, i32_w]; rw [c4b0]) | skip)
      have H' := Aside0.mk H
      clear H
      go_wp2
      go_meet
      case rel => exact ⟨_, (false), (by first | rfl | (simp; done) | (simp [*]; done)), H', ⟨by first | omega | exact Nat.le_refl _⟩, by repeat (first | exact Drawn0.refl _ | apply Drawn0.step)⟩
  case rest =>
    clear HC3
    try clear p2
    try clear c4
    try clear c4b0
    obtain ⟨kq, x6_2, rfl, HA, HJ2, ⟨mc2, rfl⟩⟩ := hcut
    cases kq with
    | zero => exact absurd HA.out (by simp [resolve_value.j0])
    | succ kj2 =>
      have H := HA.out
      clear HA
      simp only [resolve_value.j0] at H
      by_cases c5 : x6_2 = true
      · subst c5
        have H1 : (if (wrap64 (wrap32 (a0 - 48))) ≥ a1 then (some (-1)) else (some (wrap64 (wrap32 (a0 - 48))))) = some r := by rw [if_pos rfl] at H; exact H
        clear H
        have H := H1
        clear H1
        by_cases c6 : (wrap64 (wrap32 (a0 - 48))) ≥ a1
        · rw [if_pos c6] at H
          have c6b0 : decide (a1 ≤ (wrap64 (wrap32 (a0 - 48)))) = true := decide_eq_true c6
          clear c6
          obtain rfl := Option.some.inj H
          go_wp2
          go_ret
          exact ⟨by first | rfl | (simp; done) | (simp [*]; done), by repeat (first | exact Drawn0.refl _ | apply Drawn0.step)⟩
        · rw [if_neg c6] at H
          have c6b0 : decide (a1 ≤ (wrap64 (wrap32 (a0 - 48)))) = false := decide_eq_false c6
          clear c6
          obtain rfl := Option.some.inj H
          go_wp2
          go_ret
          exact ⟨by first | rfl | (simp; done) | (simp [*]; done), by repeat (first | exact Drawn0.refl _ | apply Drawn0.step)⟩
      · replace c5 := Bool.eq_false_iff.mpr c5
        subst c5
        have H1 : (if a0 ≥ 97 then (resolve_value.j1 kj2 a0 a1 (-1) (decide (a0 ≤ 102))) else (resolve_value.j1 kj2 a0 a1 (-1) false)) = some r := by rw [if_neg (show ¬ (false = true) by decide)] at H; exact H
        clear H
        have H := H1
        clear H1
        have HC7 := Aside0.mk H
        clear H
        go_upto_region 4 with (fail)
        go_cut [16] (fun v16 wc => ∃ (kq : Nat) (x16_6 : Bool), v16 = .bool x16_6 ∧ Aside0 (resolve_value.j1 kq a0 a1 (-1) x16_6 = some r) ∧ Aside0 (kq ≤ kj2) ∧ Drawn0 w wc)
        case first =>
          have H := HC7.out
          clear HC7
          by_cases c8 : a0 ≥ 97
          · rw [if_pos c8] at H
            have c8b0 : decide (97 ≤ a0) = true := decide_eq_true c8
            clear c8
            (first | rw [c8b0] | (simp only [i64_w, i32_w]; rw [c8b0]) | skip)
            have H' := Aside0.mk H
            clear H
            go_wp2
            go_meet
            case rel => exact ⟨_, (decide (a0 ≤ 102)), (by first | rfl | (simp; done) | (simp [*]; done)), H', ⟨by have := HJ2.out; first | omega | exact Nat.le_refl _⟩, by repeat (first | exact Drawn0.refl _ | apply Drawn0.step)⟩
          · rw [if_neg c8] at H
            have c8b0 : decide (97 ≤ a0) = false := decide_eq_false c8
            clear c8
            (first | rw [c8b0] | (simp only [i64_w, i32_w]; rw [c8b0]) | skip)
            have H' := Aside0.mk H
            clear H
            go_wp2
            go_meet
            case rel => exact ⟨_, (false), (by first | rfl | (simp; done) | (simp [*]; done)), H', ⟨by have := HJ2.out; first | omega | exact Nat.le_refl _⟩, by repeat (first | exact Drawn0.refl _ | apply Drawn0.step)⟩
        case rest =>
          clear HC7
          try clear c2
          try clear p2
          try clear p3
          try clear c4
          try clear c4b0
          try clear c5
          try clear c6
          try clear c6b0
          try clear p6
          try clear c8
          try clear c8b0
          try clear p2
          obtain ⟨kq, x16_6, rfl, HA, HJ6, ⟨mc6, rfl⟩⟩ := hcut
          cases kq with
          | zero => exact absurd HA.out (by simp [resolve_value.j1])
          | succ kj6 =>
            have H := HA.out
            clear HA
            simp only [resolve_value.j1] at H
            by_cases c9 : x16_6 = true
            · subst c9
              have H1 : (if (wrap64 ((wrap64 (wrap32 (a0 - 97))) + 10)) ≥ a1 then (some (-1)) else (some (wrap64 ((wrap64 (wrap32 (a0 - 97))) + 10)))) = some r := by rw [if_pos rfl] at H; exact H
              clear H
              have H := H1
              clear H1
              by_cases c10 : (wrap64 ((wrap64 (wrap32 (a0 - 97))) + 10)) ≥ a1
              · rw [if_pos c10] at H
                have c10b0 : decide (a1 ≤ (wrap64 ((wrap64 (wrap32 (a0 - 97))) + 10))) = true := decide_eq_true c10
                clear c10
                obtain rfl := Option.some.inj H
                go_wp2
                go_ret
                exact ⟨by first | rfl | (simp; done) | (simp [*]; done), by repeat (first | exact Drawn0.refl _ | apply Drawn0.step)⟩
              · rw [if_neg c10] at H
                have c10b0 : decide (a1 ≤ (wrap64 ((wrap64 (wrap32 (a0 - 97))) + 10))) = false := decide_eq_false c10
                clear c10
                obtain rfl := Option.some.inj H
                go_wp2
                go_ret
                exact ⟨by first | rfl | (simp; done) | (simp [*]; done), by repeat (first | exact Drawn0.refl _ | apply Drawn0.step)⟩
            · replace c9 := Bool.eq_false_iff.mpr c9
              subst c9
              have H1 : (if a0 ≥ 65 then (resolve_value.j2 kj6 a0 a1 (-1) (decide (a0 ≤ 70))) else (resolve_value.j2 kj6 a0 a1 (-1) false)) = some r := by rw [if_neg (show ¬ (false = true) by decide)] at H; exact H
              clear H
              have H := H1
              clear H1
              have HC11 := Aside0.mk H
              clear H
              go_upto_region 6 with (fail)
              go_cut [27] (fun v27 wc => ∃ (kq : Nat) (x27_10 : Bool), v27 = .bool x27_10 ∧ Aside0 (resolve_value.j2 kq a0 a1 (-1) x27_10 = some r) ∧ Aside0 (kq ≤ kj6) ∧ Drawn0 w wc)
              case first =>
                have H := HC11.out
                clear HC11
                by_cases c12 : a0 ≥ 65
                · rw [if_pos c12] at H
                  have c12b0 : decide (65 ≤ a0) = true := decide_eq_true c12
                  clear c12
                  (first | rw [c12b0] | (simp only [i64_w, i32_w]; rw [c12b0]) | skip)
                  have H' := Aside0.mk H
                  clear H
                  go_wp2
                  go_meet
                  case rel => exact ⟨_, (decide (a0 ≤ 70)), (by first | rfl | (simp; done) | (simp [*]; done)), H', ⟨by have := HJ2.out; have := HJ6.out; first | omega | exact Nat.le_refl _⟩, by repeat (first | exact Drawn0.refl _ | apply Drawn0.step)⟩
                · rw [if_neg c12] at H
                  have c12b0 : decide (65 ≤ a0) = false := decide_eq_false c12
                  clear c12
                  (first | rw [c12b0] | (simp only [i64_w, i32_w]; rw [c12b0]) | skip)
                  have H' := Aside0.mk H
                  clear H
                  go_wp2
                  go_meet
                  case rel => exact ⟨_, (false), (by first | rfl | (simp; done) | (simp [*]; done)), H', ⟨by have := HJ2.out; have := HJ6.out; first | omega | exact Nat.le_refl _⟩, by repeat (first | exact Drawn0.refl _ | apply Drawn0.step)⟩
              case rest =>
                clear HC11
                try clear c1
                try clear c2
                try clear p2
                try clear p3
                try clear c4
                try clear c4b0
                try clear c5
                try clear c6
                try clear c6b0
                try clear p6
                try clear c8
                try clear c8b0
                try clear c9
                try clear c10
                try clear c10b0
                try clear c12
                try clear c12b0
                try clear p2
                try clear p3
                try clear p6
                obtain ⟨kq, x27_10, rfl, HA, HJ10, ⟨mc10, rfl⟩⟩ := hcut
                cases kq with
                | zero => exact absurd HA.out (by simp [resolve_value.j2])
                | succ kj10 =>
                  have H := HA.out
                  clear HA
                  simp only [resolve_value.j2] at H
                  by_cases c13 : x27_10 = true
                  · subst c13
                    have H1 : (if (wrap64 ((wrap64 (wrap32 (a0 - 65))) + 10)) ≥ a1 then (some (-1)) else (some (wrap64 ((wrap64 (wrap32 (a0 - 65))) + 10)))) = some r := by rw [if_pos rfl] at H; exact H
                    clear H
                    have H := H1
                    clear H1
                    by_cases c14 : (wrap64 ((wrap64 (wrap32 (a0 - 65))) + 10)) ≥ a1
                    · rw [if_pos c14] at H
                      have c14b0 : decide (a1 ≤ (wrap64 ((wrap64 (wrap32 (a0 - 65))) + 10))) = true := decide_eq_true c14
                      clear c14
                      obtain rfl := Option.some.inj H
                      go_wp2
                      go_ret
                      exact ⟨by first | rfl | (simp; done) | (simp [*]; done), by repeat (first | exact Drawn0.refl _ | apply Drawn0.step)⟩
                    · rw [if_neg c14] at H
                      have c14b0 : decide (a1 ≤ (wrap64 ((wrap64 (wrap32 (a0 - 65))) + 10))) = false := decide_eq_false c14
                      clear c14
                      obtain rfl := Option.some.inj H
                      go_wp2
                      go_ret
                      exact ⟨by first | rfl | (simp; done) | (simp [*]; done), by repeat (first | exact Drawn0.refl _ | apply Drawn0.step)⟩
                  · replace c13 := Bool.eq_false_iff.mpr c13
                    subst c13
                    have H1 : (if (-1) ≥ a1 then (some (-1)) else (some (-1))) = some r := by rw [if_neg (show ¬ (false = true) by decide)] at H; exact H
                    clear H
                    have H := H1
                    clear H1
                    by_cases c15 : (-1) ≥ a1
                    · rw [if_pos c15] at H
                      have c15b0 : decide (a1 ≤ (-1)) = true := decide_eq_true c15
                      clear c15
                      obtain rfl := Option.some.inj H
                      go_wp2
                      go_ret
                      exact ⟨by first | rfl | (simp; done) | (simp [*]; done), by repeat (first | exact Drawn0.refl _ | apply Drawn0.step)⟩
                    · rw [if_neg c15] at H
                      have c15b0 : decide (a1 ≤ (-1)) = false := decide_eq_false c15
                      clear c15
                      obtain rfl := Option.some.inj H
                      go_wp2
                      go_ret
                      exact ⟨by first | rfl | (simp; done) | (simp [*]; done), by repeat (first | exact Drawn0.refl _ | apply Drawn0.step)⟩

/-! ### resolve_number: function 43 -/
def resolve_number.l0 : Nat → ByteArray → Int → Int → ByteArray → Int → Option (Int × Bool)
  | 0, _, _, _, _, _ => none
  | k + 1, x0, x1, x6, x215000, x215001 => if 0 ≤ x215001 then (if x215001 < (x215000.size : Int) then ((resolve_value.f k (rdRune x215000 x215001) x1).bind fun t215 => (if t215 < 0 then (some (0, false)) else (if (IntKind.u64.wrap (x1)) = 0 then (none) else (if x6 > (IntKind.u64.wrap (Int.tdiv (IntKind.u64.wrap (9223372036854775808 - (IntKind.u64.wrap (t215)))) (IntKind.u64.wrap (x1)))) then (some (0, false)) else (resolve_number.l0 k x0 x1 (IntKind.u64.wrap ((IntKind.u64.wrap (x6 * (IntKind.u64.wrap (x1)))) + (IntKind.u64.wrap (t215)))) x215000 (rdNext x215000 x215001)))))) else (some (x6, !x0.toList.isEmpty))) else (none)
def resolve_number.f (k : Nat) (a0 : ByteArray) (a1 : Int) : Option (Int × Bool) := resolve_number.l0 k a0 a1 0 a0 0
theorem resolve_number.mono_l : ∀ k, (∀ y0 y1 y2 y3 y4, LeO (resolve_number.l0 k y0 y1 y2 y3 y4) (resolve_number.l0 (k + 1) y0 y1 y2 y3 y4))
  | 0 => fun _ _ _ _ _ r h => by simp [resolve_number.l0] at h
  | k + 1 => by
    have ih0 := resolve_number.mono_l k
    · intro y0 y1 y2 y3 y4
      unfold resolve_number.l0
      repeat' first
      | (with_reducible exact ih0 _ _ _ _ _)
      | (with_reducible exact resolve_value.mono _ _ _)
      | (with_reducible exact LeO.refl _)
      | (with_reducible exact LeO.none _)
      | (with_reducible refine LeO.ite ?_ ?_)
      | (with_reducible refine LeO.bind ?_ (fun _ => ?_))
      | exact ih0 _ _ _ _ _
      | exact resolve_value.mono _ _ _
      | exact LeO.none _
      | refine LeO.ite ?_ ?_
      | refine LeO.bind ?_ (fun _ => ?_)
theorem resolve_number.mono : ∀ a0 a1 k, LeO (resolve_number.f k a0 a1) (resolve_number.f (k + 1) a0 a1) := by
  intro a0 a1 k
  have ih0 := resolve_number.mono_l k
  unfold resolve_number.f
  repeat' first
      | (with_reducible exact ih0 _ _ _ _ _)
      | (with_reducible exact resolve_value.mono _ _ _)
      | (with_reducible exact LeO.refl _)
      | (with_reducible exact LeO.none _)
      | (with_reducible refine LeO.ite ?_ ?_)
      | (with_reducible refine LeO.bind ?_ (fun _ => ?_))
      | exact ih0 _ _ _ _ _
      | exact resolve_value.mono _ _ _
      | exact LeO.none _
      | refine LeO.ite ?_ ?_
      | refine LeO.bind ?_ (fun _ => ?_)
set_option maxHeartbeats 8000000 in
set_option maxRecDepth 100000 in
theorem resolve_number.calls (k : Nat) (a0 : ByteArray) (a1 : Int) (r1 : Int) (r2 : Bool) (w : World) (h : resolve_number.f k a0 a1 = some (r1, r2)) :
    Calls Try.prog 43 #[.string a0, .int .i64 a1] w fun e w' => e = .returned (.tuple #[.int .u64 r1, .bool r2]) ∧ Below w.heap.size w w' := by
  have HB := Aside0.mk (Below.refl w.heap.size w)
  have H : (resolve_number.l0 k a0 a1 0 a0 0) = some (r1, r2) := h
  clear h
  have H' := Aside0.mk H
  clear H
  go_enter Try.func43, Try.ntmps43
  go_wp2_with (first | ((with_reducible refine gate_dst (N := 11) rfl ?_); refine iter_event ?hg (N := 11) ?hd (s := a0) ?hr ?_; (case hd => rfl); (case hg => rfl); (case hr => first | (go_simp; done) | (go_simp; rfl)); intro gb214 hg w3 hbox hb; have n0_ := Aside0.mk (below_step (by repeat (first | (with_reducible first | exact HB.out | apply below_alloc | apply pw_below_drewN | apply below_drew1) | exact HB.out)) hb); have n1_ := Aside0.mk (hbox); have n2_ := Aside0.mk ((by rw [hg]; exact (below_size (by repeat (first | (with_reducible first | exact HB.out | apply below_alloc | apply pw_below_drewN | apply below_drew1) | exact HB.out))) : w.heap.size ≤ gb214)); have n3_ := Aside0.mk ((by rw [hg]; exact (below_size (by repeat (first | (with_reducible first | exact HB.out | apply below_alloc | apply pw_below_drewN | apply below_drew1) | exact HB.out))) : w.heap.size ≤ gb214)); clear HB; have HB := n0_; have BK214 := n1_; have GW214 := n2_; have GE214 := n3_; clear n0_ n1_ n2_ n3_; clear hb hbox hg))
  (try simp only [Act.put, List.setIfInBounds_toArray, List.set_cons_zero, List.set_cons_succ])
  go_loopg [6] k (fun kq v6 w' => ∃ (x6_1 : Int) (x215001_1 : Int), v6 = .int .u64 x6_1 ∧ Aside0 (resolve_number.l0 kq a0 a1 x6_1 a0 x215001_1 = some (r1, r2)) ∧ Aside0 (kq ≤ k) ∧ Aside0 (w'.heap[gb214]? = some (.stringIter a0 (x215001_1 : Int).toNat)) ∧ Aside0 (Below w.heap.size w w'))
  case atStart => exact ⟨(0), (0), (by first | rfl | (simp; done) | (simp [*]; done)), H', ⟨Nat.le_refl _⟩, ⟨by (with_reducible repeat (first | refine blk_drewN ?_ _ | refine blk_drew ?_ | refine blk_alloc ?_ _)); exact BK214.out⟩, ⟨by repeat (first | (with_reducible first | exact HB.out | apply below_alloc | apply pw_below_drewN | apply below_drew1 | refine below_set ?_ GE214.out) | exact HB.out)⟩⟩
  case round =>
    clear H'
    try clear p2
    obtain ⟨x6_1, x215001_1, rfl, HA, HK1, BK214, HB⟩ := hrel
    cases gk with
    | zero => exact absurd HA.out (by simp [resolve_number.l0])
    | succ k1 =>
      have H := HA.out
      clear HA
      simp only [resolve_number.l0] at H
      by_cases c4 : 0 ≤ x215001_1
      · rw [if_pos c4] at H
        have c4b0 : decide (0 ≤ x215001_1) = true := decide_eq_true c4
        clear c4
        by_cases c5 : x215001_1 < (a0.size : Int)
        · rw [if_pos c5] at H
          have c5b0 : decide (x215001_1 < (a0.size : Int)) = true := decide_eq_true c5
          clear c5
          replace H := Option.bind_eq_some_iff.mp H
          obtain ⟨t215, A60, H⟩ := H
          replace H : (if t215 < 0 then (some (0, false)) else (if (IntKind.u64.wrap (a1)) = 0 then (none) else (if x6_1 > (IntKind.u64.wrap (Int.tdiv (IntKind.u64.wrap (9223372036854775808 - (IntKind.u64.wrap (t215)))) (IntKind.u64.wrap (a1)))) then (some (0, false)) else (resolve_number.l0 k1 a0 a1 (IntKind.u64.wrap ((IntKind.u64.wrap (x6_1 * (IntKind.u64.wrap (a1)))) + (IntKind.u64.wrap (t215)))) a0 (rdNext a0 x215001_1))))) = some (r1, r2) := H
          have A6 := Aside0.mk A60
          clear A60
          by_cases c7 : t215 < 0
          · rw [if_pos c7] at H
            have c7b0 : decide (t215 < 0) = true := decide_eq_true c7
            clear c7
            simp only [Option.some.injEq, Prod.mk.injEq] at H
            obtain ⟨rfl, rfl⟩ := H
            have pn8 : Aside0 (0 ≤ (x215001_1 : Int)) := ⟨of_decide_eq_true (by first | (with_reducible assumption) | assumption)⟩
            have qn8 : Aside0 (x215001_1 < (a0.size : Int)) := ⟨of_decide_eq_true (by first | (with_reducible assumption) | assumption)⟩
            go_wp2_with (first | ((with_reducible refine gate_dst (N := 12) rfl ?_); refine next_event ?hg (N := 12) ?hd ?ho (x := .tmp 11) (g := gb214) (s := a0) (p := x215001_1) ?hx BK214.out pn8.out qn8.out ?_; (case hd => rfl); (case hg => rfl); (case ho => rfl); (case hx => rfl); intro w9 hit hg; have n0_ := Aside0.mk (hit); have n1_ := Aside0.mk (pw_below_grown (by repeat (first | (with_reducible first | exact HB.out | apply below_alloc | apply pw_below_drewN | apply below_drew1 | refine below_set ?_ GE214.out) | exact HB.out)) (some gb214) ((below_size (by repeat (first | (with_reducible first | exact HB.out | apply below_alloc | apply pw_below_drewN | apply below_drew1 | refine below_set ?_ GE214.out) | exact HB.out)))) hg (fun k_ e_ => by injection e_ with e_; subst e_; exact GW214.out)); clear BK214; clear HB; have BK214 := n0_; have HB := n1_; clear n0_ n1_; clear hit hg) | ((with_reducible refine gate_callee (f := 53) rfl ?_); refine goesL_ (some 17) rfl rfl Try.func53 (by kernel_rfl) rfl #[.int .i32 (rdRune a0 x215001_1), .int .i64 a1] rfl (by (try simp only [List.map_toArray, List.map_cons, List.map_nil]); first | done | rfl | (simp only [List.length_drop, List.length_take]; rfl) | (simp only [ByteArray.size_extract, Nat.min_self]; done) | (simp only [ByteArray.size_extract, Nat.min_self]; rfl)) ?_; (with_reducible refine (resolve_value.calls k1 (rdRune a0 x215001_1) a1 t215 _ A6.out).mono ?_); rintro e w' ⟨rfl, ⟨nd, rfl⟩⟩; refine ⟨_, rfl, ?_⟩))
            go_ret2
            exact ⟨by first | rfl | (simp [errW_none, errW_some] <;> rfl) | (simp [*, errW_none, errW_some] <;> rfl), by repeat (first | (with_reducible first | exact HB.out | apply below_alloc | apply pw_below_drewN | apply below_drew1 | refine below_set ?_ GE214.out) | exact HB.out)⟩
          · rw [if_neg c7] at H
            have c7b0 : decide (t215 < 0) = false := decide_eq_false c7
            clear c7
            by_cases c10 : (IntKind.u64.wrap (a1)) = 0
            · rw [if_pos c10] at H
              exact absurd H (by simp)
            · rw [if_neg c10] at H
              have c10b0 : ((IntKind.u64.wrap (a1)) == 0) = false := beq_eq_false_iff_ne.mpr c10
              have c10b1 : ((IntKind.u64.wrap (a1)) != 0) = true := bne_iff_ne.mpr c10
              by_cases c11 : x6_1 > (IntKind.u64.wrap (Int.tdiv (IntKind.u64.wrap (9223372036854775808 - (IntKind.u64.wrap (t215)))) (IntKind.u64.wrap (a1))))
              · rw [if_pos c11] at H
                have c11b0 : decide ((IntKind.u64.wrap (Int.tdiv (IntKind.u64.wrap (9223372036854775808 - (IntKind.u64.wrap (t215)))) (IntKind.u64.wrap (a1)))) < x6_1) = true := decide_eq_true c11
                clear c11
                simp only [Option.some.injEq, Prod.mk.injEq] at H
                obtain ⟨rfl, rfl⟩ := H
                have pn12 : Aside0 (0 ≤ (x215001_1 : Int)) := ⟨of_decide_eq_true (by first | (with_reducible assumption) | assumption)⟩
                have qn12 : Aside0 (x215001_1 < (a0.size : Int)) := ⟨of_decide_eq_true (by first | (with_reducible assumption) | assumption)⟩
                go_wp2_with (first | ((with_reducible refine gate_dst (N := 12) rfl ?_); refine next_event ?hg (N := 12) ?hd ?ho (x := .tmp 11) (g := gb214) (s := a0) (p := x215001_1) ?hx BK214.out pn12.out qn12.out ?_; (case hd => rfl); (case hg => rfl); (case ho => rfl); (case hx => rfl); intro w13 hit hg; have n0_ := Aside0.mk (hit); have n1_ := Aside0.mk (pw_below_grown (by repeat (first | (with_reducible first | exact HB.out | apply below_alloc | apply pw_below_drewN | apply below_drew1 | refine below_set ?_ GE214.out) | exact HB.out)) (some gb214) ((below_size (by repeat (first | (with_reducible first | exact HB.out | apply below_alloc | apply pw_below_drewN | apply below_drew1 | refine below_set ?_ GE214.out) | exact HB.out)))) hg (fun k_ e_ => by injection e_ with e_; subst e_; exact GW214.out)); clear BK214; clear HB; have BK214 := n0_; have HB := n1_; clear n0_ n1_; clear hit hg) | ((with_reducible refine gate_callee (f := 53) rfl ?_); refine goesL_ (some 17) rfl rfl Try.func53 (by kernel_rfl) rfl #[.int .i32 (rdRune a0 x215001_1), .int .i64 a1] rfl (by (try simp only [List.map_toArray, List.map_cons, List.map_nil]); first | done | rfl | (simp only [List.length_drop, List.length_take]; rfl) | (simp only [ByteArray.size_extract, Nat.min_self]; done) | (simp only [ByteArray.size_extract, Nat.min_self]; rfl)) ?_; (with_reducible refine (resolve_value.calls k1 (rdRune a0 x215001_1) a1 t215 _ A6.out).mono ?_); rintro e w' ⟨rfl, ⟨nd, rfl⟩⟩; refine ⟨_, rfl, ?_⟩))
                go_ret2
                exact ⟨by first | rfl | (simp [errW_none, errW_some] <;> rfl) | (simp [*, errW_none, errW_some] <;> rfl), by repeat (first | (with_reducible first | exact HB.out | apply below_alloc | apply pw_below_drewN | apply below_drew1 | refine below_set ?_ GE214.out) | exact HB.out)⟩
              · rw [if_neg c11] at H
                have c11b0 : decide ((IntKind.u64.wrap (Int.tdiv (IntKind.u64.wrap (9223372036854775808 - (IntKind.u64.wrap (t215)))) (IntKind.u64.wrap (a1)))) < x6_1) = false := decide_eq_false c11
                clear c11
                have H' := Aside0.mk H
                clear H
                have pn14 : Aside0 (0 ≤ (x215001_1 : Int)) := ⟨of_decide_eq_true (by first | (with_reducible assumption) | assumption)⟩
                have qn14 : Aside0 (x215001_1 < (a0.size : Int)) := ⟨of_decide_eq_true (by first | (with_reducible assumption) | assumption)⟩
                go_wp2_with (first | ((with_reducible refine gate_dst (N := 12) rfl ?_); refine next_event ?hg (N := 12) ?hd ?ho (x := .tmp 11) (g := gb214) (s := a0) (p := x215001_1) ?hx BK214.out pn14.out qn14.out ?_; (case hd => rfl); (case hg => rfl); (case ho => rfl); (case hx => rfl); intro w15 hit hg; have n0_ := Aside0.mk (hit); have n1_ := Aside0.mk (pw_below_grown (by repeat (first | (with_reducible first | exact HB.out | apply below_alloc | apply pw_below_drewN | apply below_drew1 | refine below_set ?_ GE214.out) | exact HB.out)) (some gb214) ((below_size (by repeat (first | (with_reducible first | exact HB.out | apply below_alloc | apply pw_below_drewN | apply below_drew1 | refine below_set ?_ GE214.out) | exact HB.out)))) hg (fun k_ e_ => by injection e_ with e_; subst e_; exact GW214.out)); clear BK214; clear HB; have BK214 := n0_; have HB := n1_; clear n0_ n1_; clear hit hg) | ((with_reducible refine gate_callee (f := 53) rfl ?_); refine goesL_ (some 17) rfl rfl Try.func53 (by kernel_rfl) rfl #[.int .i32 (rdRune a0 x215001_1), .int .i64 a1] rfl (by (try simp only [List.map_toArray, List.map_cons, List.map_nil]); first | done | rfl | (simp only [List.length_drop, List.length_take]; rfl) | (simp only [ByteArray.size_extract, Nat.min_self]; done) | (simp only [ByteArray.size_extract, Nat.min_self]; rfl)) ?_; (with_reducible refine (resolve_value.calls k1 (rdRune a0 x215001_1) a1 t215 _ A6.out).mono ?_); rintro e w' ⟨rfl, ⟨nd, rfl⟩⟩; refine ⟨_, rfl, ?_⟩))
                go_roundg k1
                case measure => have := HK1.out; omega
                case rel => exact ⟨(IntKind.u64.wrap ((IntKind.u64.wrap (x6_1 * (IntKind.u64.wrap (a1)))) + (IntKind.u64.wrap (t215)))), (rdNext a0 x215001_1), (by first | rfl | (simp; done) | (simp [*]; done)), H', ⟨by have := HK1.out; omega⟩, ⟨by (with_reducible repeat (first | refine blk_drewN ?_ _ | refine blk_drew ?_ | refine blk_alloc ?_ _)); exact BK214.out⟩, ⟨by repeat (first | (with_reducible first | exact HB.out | apply below_alloc | apply pw_below_drewN | apply below_drew1 | refine below_set ?_ GE214.out) | exact HB.out)⟩⟩
        · rw [if_neg c5] at H
          have c5b0 : decide (x215001_1 < (a0.size : Int)) = false := decide_eq_false c5
          clear c5
          simp only [Option.some.injEq, Prod.mk.injEq] at H
          obtain ⟨rfl, rfl⟩ := H
          have hnx16 := next_end (P := Try.prog) (s := a0) (p := x215001_1) BK214.out (of_decide_eq_false (by first | (with_reducible assumption) | assumption))
          go_wp2
          go_ret2
          exact ⟨by first | rfl | (simp [errW_none, errW_some] <;> rfl) | (simp [*, errW_none, errW_some] <;> rfl), by repeat (first | (with_reducible first | exact HB.out | apply below_alloc | apply pw_below_drewN | apply below_drew1 | refine below_set ?_ GE214.out) | exact HB.out)⟩
      · rw [if_neg c4] at H
        exact absurd H (by simp)

/-! ### resolve_Int: function 24 -/
mutual
def resolve_Int.j0 : Nat → ByteArray → Bool → Int → Option (Int × Bool)
  | 0, _, _, _ => none
  | k + 1, x4, x5, x6 => (resolve_number.f k x4 x6).bind fun bt220 => (if bt220.2 = true then (if bt220.1 = 9223372036854775808 then (resolve_Int.j1 k x5 bt220.1 (!x5)) else (resolve_Int.j1 k x5 bt220.1 false)) else (resolve_Int.j1 k x5 bt220.1 true))
def resolve_Int.j1 : Nat → Bool → Int → Bool → Option (Int × Bool)
  | 0, _, _, _ => none
  | k + 1, x5, x7, x39 => if x39 = true then (some (0, false)) else (if x5 = true then (some (wrap64 (IntKind.u64.wrap (-x7)), true)) else (some (wrap64 (x7), true)))
end
def resolve_Int.f (k : Nat) (a0 : ByteArray) : Option (Int × Bool) := (resolve_sign.f a0).bind fun bt216 => ((strings_HasPrefix.f a0 (⟨#[48, 111]⟩ : ByteArray)).bind fun t218 => (if t218 = true then (if 2 ≤ (a0.size : Int) then (resolve_Int.j0 k (a0.extract 2 a0.size) bt216.2 8) else (none)) else ((strings_HasPrefix.f a0 (⟨#[48, 120]⟩ : ByteArray)).bind fun t219 => (if t219 = true then (if 2 ≤ (a0.size : Int) then (resolve_Int.j0 k (a0.extract 2 a0.size) bt216.2 16) else (none)) else (resolve_Int.j0 k bt216.1 bt216.2 10)))))
theorem resolve_Int.mono_l : ∀ k, (∀ y0 y1 y2, LeO (resolve_Int.j0 k y0 y1 y2) (resolve_Int.j0 (k + 1) y0 y1 y2)) ∧ (∀ y0 y1 y2, LeO (resolve_Int.j1 k y0 y1 y2) (resolve_Int.j1 (k + 1) y0 y1 y2))
  | 0 => ⟨fun _ _ _ r h => by simp [resolve_Int.j0] at h, fun _ _ _ r h => by simp [resolve_Int.j1] at h⟩
  | k + 1 => by
    obtain ⟨ih0, ih1⟩ := resolve_Int.mono_l k
    refine ⟨?_, ?_⟩
    · intro y0 y1 y2
      unfold resolve_Int.j0
      repeat' first
      | (with_reducible exact ih0 _ _ _)
      | (with_reducible exact ih1 _ _ _)
      | (with_reducible exact resolve_number.mono _ _ _)
      | (with_reducible exact LeO.refl _)
      | (with_reducible exact LeO.none _)
      | (with_reducible refine LeO.ite ?_ ?_)
      | (with_reducible refine LeO.bind ?_ (fun _ => ?_))
      | exact ih0 _ _ _
      | exact ih1 _ _ _
      | exact resolve_number.mono _ _ _
      | exact LeO.none _
      | refine LeO.ite ?_ ?_
      | refine LeO.bind ?_ (fun _ => ?_)
    · intro y0 y1 y2
      unfold resolve_Int.j1
      repeat' first
      | (with_reducible exact ih0 _ _ _)
      | (with_reducible exact ih1 _ _ _)
      | (with_reducible exact resolve_number.mono _ _ _)
      | (with_reducible exact LeO.refl _)
      | (with_reducible exact LeO.none _)
      | (with_reducible refine LeO.ite ?_ ?_)
      | (with_reducible refine LeO.bind ?_ (fun _ => ?_))
      | exact ih0 _ _ _
      | exact ih1 _ _ _
      | exact resolve_number.mono _ _ _
      | exact LeO.none _
      | refine LeO.ite ?_ ?_
      | refine LeO.bind ?_ (fun _ => ?_)
theorem resolve_Int.mono : ∀ a0 k, LeO (resolve_Int.f k a0) (resolve_Int.f (k + 1) a0) := by
  intro a0 k
  obtain ⟨ih0, ih1⟩ := resolve_Int.mono_l k
  unfold resolve_Int.f
  repeat' first
      | (with_reducible exact ih0 _ _ _)
      | (with_reducible exact ih1 _ _ _)
      | (with_reducible exact resolve_number.mono _ _ _)
      | (with_reducible exact LeO.refl _)
      | (with_reducible exact LeO.none _)
      | (with_reducible refine LeO.ite ?_ ?_)
      | (with_reducible refine LeO.bind ?_ (fun _ => ?_))
      | exact ih0 _ _ _
      | exact ih1 _ _ _
      | exact resolve_number.mono _ _ _
      | exact LeO.none _
      | refine LeO.ite ?_ ?_
      | refine LeO.bind ?_ (fun _ => ?_)
set_option maxHeartbeats 8000000 in
set_option maxRecDepth 100000 in
theorem resolve_Int.calls (k : Nat) (a0 : ByteArray) (r1 : Int) (r2 : Bool) (w : World) (h : resolve_Int.f k a0 = some (r1, r2)) :
    Calls Try.prog 24 #[.string a0] w fun e w' => e = .returned (.tuple #[.int .i64 r1, .bool r2]) ∧ Below w.heap.size w w' := by
  have HB := Aside0.mk (Below.refl w.heap.size w)
  have H : ((resolve_sign.f a0).bind fun bt216 => ((strings_HasPrefix.f a0 (⟨#[48, 111]⟩ : ByteArray)).bind fun t218 => (if t218 = true then (if 2 ≤ (a0.size : Int) then (resolve_Int.j0 k (a0.extract 2 a0.size) bt216.2 8) else (none)) else ((strings_HasPrefix.f a0 (⟨#[48, 120]⟩ : ByteArray)).bind fun t219 => (if t219 = true then (if 2 ≤ (a0.size : Int) then (resolve_Int.j0 k (a0.extract 2 a0.size) bt216.2 16) else (none)) else (resolve_Int.j0 k bt216.1 bt216.2 10)))))) = some (r1, r2) := h
  clear h
  replace H := Option.bind_eq_some_iff.mp H
  obtain ⟨⟨t216, t217⟩, A20, H⟩ := H
  replace H : ((strings_HasPrefix.f a0 (⟨#[48, 111]⟩ : ByteArray)).bind fun t218 => (if t218 = true then (if 2 ≤ (a0.size : Int) then (resolve_Int.j0 k (a0.extract 2 a0.size) t217 8) else (none)) else ((strings_HasPrefix.f a0 (⟨#[48, 120]⟩ : ByteArray)).bind fun t219 => (if t219 = true then (if 2 ≤ (a0.size : Int) then (resolve_Int.j0 k (a0.extract 2 a0.size) t217 16) else (none)) else (resolve_Int.j0 k t216 t217 10))))) = some (r1, r2) := H
  have A2 := Aside0.mk A20
  clear A20
  have HC3 := Aside0.mk H
  clear H
  go_enter Try.func24, Try.ntmps24
  go_upto_block 0 with (first | ((with_reducible refine gate_callee (f := 41) rfl ?_); refine goesL_ (some 11) rfl rfl Try.func41 (by kernel_rfl) rfl #[.string a0] rfl (by (try simp only [List.map_toArray, List.map_cons, List.map_nil]); first | done | rfl | (simp only [List.length_drop, List.length_take]; rfl) | (simp only [ByteArray.size_extract, Nat.min_self]; done) | (simp only [ByteArray.size_extract, Nat.min_self]; rfl)) ?_; (with_reducible refine (resolve_sign.calls a0 t216 t217 _ A2.out).mono ?_); rintro e w' ⟨rfl, ⟨nd, rfl⟩⟩; refine ⟨_, rfl, ?_⟩))
  (try simp only [Act.put, List.setIfInBounds_toArray, List.set_cons_zero, List.set_cons_succ])
  go_cut [4, 6] (fun v4 v6 wc => ∃ (kq : Nat) (x4_2 : ByteArray) (x6_2 : Int), v4 = .string x4_2 ∧ v6 = .int .i64 x6_2 ∧ Aside0 (resolve_Int.j0 kq x4_2 t217 x6_2 = some (r1, r2)) ∧ Aside0 (kq ≤ k) ∧ Aside0 (Below w.heap.size w wc))
  case first =>
    have H := HC3.out
    clear HC3
    replace H := Option.bind_eq_some_iff.mp H
    obtain ⟨t218, A40, H⟩ := H
    replace H : (if t218 = true then (if 2 ≤ (a0.size : Int) then (resolve_Int.j0 k (a0.extract 2 a0.size) t217 8) else (none)) else ((strings_HasPrefix.f a0 (⟨#[48, 120]⟩ : ByteArray)).bind fun t219 => (if t219 = true then (if 2 ≤ (a0.size : Int) then (resolve_Int.j0 k (a0.extract 2 a0.size) t217 16) else (none)) else (resolve_Int.j0 k t216 t217 10)))) = some (r1, r2) := H
    have A4 := Aside0.mk A40
    clear A40
    by_cases c5 : t218 = true
    · subst c5
      have H1 : (if 2 ≤ (a0.size : Int) then (resolve_Int.j0 k (a0.extract 2 a0.size) t217 8) else (none)) = some (r1, r2) := by rw [if_pos rfl] at H; exact H
      clear H
      have H := H1
      clear H1
      by_cases c6 : 2 ≤ (a0.size : Int)
      · rw [if_pos c6] at H
        have c6b0 := eq_true c6
        have c6b1 : decide (2 ≤ (a0.size : Int)) = true := decide_eq_true c6
        clear c6
        have H' := Aside0.mk H
        clear H
        go_wp2_with (first | ((with_reducible refine gate_callee (f := 42) rfl ?_); refine goesL_ (some 16) rfl rfl Try.func42 (by kernel_rfl) rfl #[.string a0, .string (⟨#[48, 111]⟩ : ByteArray)] rfl (by (try simp only [List.map_toArray, List.map_cons, List.map_nil]); first | done | rfl | (simp only [List.length_drop, List.length_take]; rfl) | (simp only [ByteArray.size_extract, Nat.min_self]; done) | (simp only [ByteArray.size_extract, Nat.min_self]; rfl)) ?_; (with_reducible refine (strings_HasPrefix.calls a0 (⟨#[48, 111]⟩ : ByteArray) true _ A4.out).mono ?_); rintro e w' ⟨rfl, ⟨nd, rfl⟩⟩; refine ⟨_, rfl, ?_⟩))
        go_meet
        case rel => exact ⟨_, (a0.extract 2 a0.size), (8), (by first | rfl | (simp; done) | (simp [*]; done)), (by first | rfl | (simp; done) | (simp [*]; done)), H', ⟨by first | omega | exact Nat.le_refl _⟩, ⟨by repeat (first | (with_reducible first | exact HB.out | apply below_alloc | apply pw_below_drewN | apply below_drew1) | exact HB.out)⟩⟩
      · rw [if_neg c6] at H
        exact absurd H (by simp)
    · replace c5 := Bool.eq_false_iff.mpr c5
      subst c5
      have H1 : ((strings_HasPrefix.f a0 (⟨#[48, 120]⟩ : ByteArray)).bind fun t219 => (if t219 = true then (if 2 ≤ (a0.size : Int) then (resolve_Int.j0 k (a0.extract 2 a0.size) t217 16) else (none)) else (resolve_Int.j0 k t216 t217 10))) = some (r1, r2) := by rw [if_neg (show ¬ (false = true) by decide)] at H; exact H
      clear H
      have H := H1
      clear H1
      replace H := Option.bind_eq_some_iff.mp H
      obtain ⟨t219, A70, H⟩ := H
      replace H : (if t219 = true then (if 2 ≤ (a0.size : Int) then (resolve_Int.j0 k (a0.extract 2 a0.size) t217 16) else (none)) else (resolve_Int.j0 k t216 t217 10)) = some (r1, r2) := H
      have A7 := Aside0.mk A70
      clear A70
      by_cases c8 : t219 = true
      · subst c8
        have H1 : (if 2 ≤ (a0.size : Int) then (resolve_Int.j0 k (a0.extract 2 a0.size) t217 16) else (none)) = some (r1, r2) := by rw [if_pos rfl] at H; exact H
        clear H
        have H := H1
        clear H1
        by_cases c9 : 2 ≤ (a0.size : Int)
        · rw [if_pos c9] at H
          have c9b0 := eq_true c9
          have c9b1 : decide (2 ≤ (a0.size : Int)) = true := decide_eq_true c9
          clear c9
          have H' := Aside0.mk H
          clear H
          go_wp2_with (first | ((with_reducible refine gate_callee (f := 42) rfl ?_); refine goesL_ (some 16) rfl rfl Try.func42 (by kernel_rfl) rfl #[.string a0, .string (⟨#[48, 111]⟩ : ByteArray)] rfl (by (try simp only [List.map_toArray, List.map_cons, List.map_nil]); first | done | rfl | (simp only [List.length_drop, List.length_take]; rfl) | (simp only [ByteArray.size_extract, Nat.min_self]; done) | (simp only [ByteArray.size_extract, Nat.min_self]; rfl)) ?_; (with_reducible refine (strings_HasPrefix.calls a0 (⟨#[48, 111]⟩ : ByteArray) false _ A4.out).mono ?_); rintro e w' ⟨rfl, ⟨nd, rfl⟩⟩; refine ⟨_, rfl, ?_⟩) | ((with_reducible refine gate_callee (f := 42) rfl ?_); refine goesL_ (some 21) rfl rfl Try.func42 (by kernel_rfl) rfl #[.string a0, .string (⟨#[48, 120]⟩ : ByteArray)] rfl (by (try simp only [List.map_toArray, List.map_cons, List.map_nil]); first | done | rfl | (simp only [List.length_drop, List.length_take]; rfl) | (simp only [ByteArray.size_extract, Nat.min_self]; done) | (simp only [ByteArray.size_extract, Nat.min_self]; rfl)) ?_; (with_reducible refine (strings_HasPrefix.calls a0 (⟨#[48, 120]⟩ : ByteArray) true _ A7.out).mono ?_); rintro e w' ⟨rfl, ⟨nd, rfl⟩⟩; refine ⟨_, rfl, ?_⟩))
          go_meet
          case rel => exact ⟨_, (a0.extract 2 a0.size), (16), (by first | rfl | (simp; done) | (simp [*]; done)), (by first | rfl | (simp; done) | (simp [*]; done)), H', ⟨by first | omega | exact Nat.le_refl _⟩, ⟨by repeat (first | (with_reducible first | exact HB.out | apply below_alloc | apply pw_below_drewN | apply below_drew1) | exact HB.out)⟩⟩
        · rw [if_neg c9] at H
          exact absurd H (by simp)
      · replace c8 := Bool.eq_false_iff.mpr c8
        subst c8
        have H1 : (resolve_Int.j0 k t216 t217 10) = some (r1, r2) := by rw [if_neg (show ¬ (false = true) by decide)] at H; exact H
        clear H
        have H := H1
        clear H1
        have H' := Aside0.mk H
        clear H
        go_wp2_with (first | ((with_reducible refine gate_callee (f := 42) rfl ?_); refine goesL_ (some 16) rfl rfl Try.func42 (by kernel_rfl) rfl #[.string a0, .string (⟨#[48, 111]⟩ : ByteArray)] rfl (by (try simp only [List.map_toArray, List.map_cons, List.map_nil]); first | done | rfl | (simp only [List.length_drop, List.length_take]; rfl) | (simp only [ByteArray.size_extract, Nat.min_self]; done) | (simp only [ByteArray.size_extract, Nat.min_self]; rfl)) ?_; (with_reducible refine (strings_HasPrefix.calls a0 (⟨#[48, 111]⟩ : ByteArray) false _ A4.out).mono ?_); rintro e w' ⟨rfl, ⟨nd, rfl⟩⟩; refine ⟨_, rfl, ?_⟩) | ((with_reducible refine gate_callee (f := 42) rfl ?_); refine goesL_ (some 21) rfl rfl Try.func42 (by kernel_rfl) rfl #[.string a0, .string (⟨#[48, 120]⟩ : ByteArray)] rfl (by (try simp only [List.map_toArray, List.map_cons, List.map_nil]); first | done | rfl | (simp only [List.length_drop, List.length_take]; rfl) | (simp only [ByteArray.size_extract, Nat.min_self]; done) | (simp only [ByteArray.size_extract, Nat.min_self]; rfl)) ?_; (with_reducible refine (strings_HasPrefix.calls a0 (⟨#[48, 120]⟩ : ByteArray) false _ A7.out).mono ?_); rintro e w' ⟨rfl, ⟨nd, rfl⟩⟩; refine ⟨_, rfl, ?_⟩))
        go_meet
        case rel => exact ⟨_, (t216), (10), (by first | rfl | (simp; done) | (simp [*]; done)), (by first | rfl | (simp; done) | (simp [*]; done)), H', ⟨by first | omega | exact Nat.le_refl _⟩, ⟨by repeat (first | (with_reducible first | exact HB.out | apply below_alloc | apply pw_below_drewN | apply below_drew1) | exact HB.out)⟩⟩
  case rest =>
    clear HC3
    try clear c2
    try clear p2
    try clear c4
    try clear c5
    try clear c6
    try clear c6b0
    try clear c6b1
    try clear c8
    try clear c9
    try clear c9b0
    try clear c9b1
    obtain ⟨kq, x4_2, x6_2, rfl, rfl, HA, HJ2, HB⟩ := hcut
    cases kq with
    | zero => exact absurd HA.out (by simp [resolve_Int.j0])
    | succ kj2 =>
      have H := HA.out
      clear HA
      simp only [resolve_Int.j0] at H
      replace H := Option.bind_eq_some_iff.mp H
      obtain ⟨⟨t220, t221⟩, A100, H⟩ := H
      replace H : (if t221 = true then (if t220 = 9223372036854775808 then (resolve_Int.j1 kj2 t217 t220 (!t217)) else (resolve_Int.j1 kj2 t217 t220 false)) else (resolve_Int.j1 kj2 t217 t220 true)) = some (r1, r2) := H
      have A10 := Aside0.mk A100
      clear A100
      have HC11 := Aside0.mk H
      clear H
      go_upto_region 8 with (first | ((with_reducible refine gate_callee (f := 43) rfl ?_); refine goesL_ (some 27) rfl rfl Try.func43 (by kernel_rfl) rfl #[.string x4_2, .int .i64 x6_2] rfl (by (try simp only [List.map_toArray, List.map_cons, List.map_nil]); first | done | rfl | (simp only [List.length_drop, List.length_take]; rfl) | (simp only [ByteArray.size_extract, Nat.min_self]; done) | (simp only [ByteArray.size_extract, Nat.min_self]; rfl)) ?_; (with_reducible refine (resolve_number.calls kj2 x4_2 x6_2 t220 t221 _ A10.out).mono ?_); rintro e w12 ⟨rfl, hb⟩; refine ⟨_, rfl, ?_⟩; have n0_ := Aside0.mk (below_step (by repeat (first | (with_reducible first | exact HB.out | apply below_alloc | apply pw_below_drewN | apply below_drew1) | exact HB.out)) hb); clear HB; have HB := n0_; clear n0_; (try clear hb); (try clear hb2); (try clear hk); (try clear hi)))
      (try simp only [Act.put, List.setIfInBounds_toArray, List.set_cons_zero, List.set_cons_succ])
      go_cut [39] (fun v39 wc => ∃ (kq : Nat) (x39_10 : Bool), v39 = .bool x39_10 ∧ Aside0 (resolve_Int.j1 kq t217 t220 x39_10 = some (r1, r2)) ∧ Aside0 (kq ≤ kj2) ∧ Aside0 (Below w.heap.size w wc))
      case first =>
        have H := HC11.out
        clear HC11
        by_cases c13 : t221 = true
        · subst c13
          have H1 : (if t220 = 9223372036854775808 then (resolve_Int.j1 kj2 t217 t220 (!t217)) else (resolve_Int.j1 kj2 t217 t220 false)) = some (r1, r2) := by rw [if_pos rfl] at H; exact H
          clear H
          have H := H1
          clear H1
          by_cases c14 : t220 = 9223372036854775808
          · rw [if_pos c14] at H
            have c14b0 : (t220 == 9223372036854775808) = true := beq_iff_eq.mpr c14
            have c14b1 : (t220 != 9223372036854775808) = false := bne_eq_false_iff_eq.mpr c14
            clear c14
            (first | rw [c14b0] | (simp only [i64_w, i32_w]; rw [c14b0]) | skip)
            have H' := Aside0.mk H
            clear H
            go_wp2
            go_meet
            case rel => exact ⟨_, (!t217), (by first | rfl | (simp; done) | (simp [*]; done)), H', ⟨by have := HJ2.out; first | omega | exact Nat.le_refl _⟩, ⟨by repeat (first | (with_reducible first | exact HB.out | apply below_alloc | apply pw_below_drewN | apply below_drew1) | exact HB.out)⟩⟩
          · rw [if_neg c14] at H
            have c14b0 : (t220 == 9223372036854775808) = false := beq_eq_false_iff_ne.mpr c14
            have c14b1 : (t220 != 9223372036854775808) = true := bne_iff_ne.mpr c14
            (first | rw [c14b0] | (simp only [i64_w, i32_w]; rw [c14b0]) | skip)
            have H' := Aside0.mk H
            clear H
            go_wp2
            go_meet
            case rel => exact ⟨_, (false), (by first | rfl | (simp; done) | (simp [*]; done)), H', ⟨by have := HJ2.out; first | omega | exact Nat.le_refl _⟩, ⟨by repeat (first | (with_reducible first | exact HB.out | apply below_alloc | apply pw_below_drewN | apply below_drew1) | exact HB.out)⟩⟩
        · replace c13 := Bool.eq_false_iff.mpr c13
          subst c13
          have H1 : (resolve_Int.j1 kj2 t217 t220 true) = some (r1, r2) := by rw [if_neg (show ¬ (false = true) by decide)] at H; exact H
          clear H
          have H := H1
          clear H1
          have H' := Aside0.mk H
          clear H
          go_wp2
          go_meet
          case rel => exact ⟨_, (true), (by first | rfl | (simp; done) | (simp [*]; done)), H', ⟨by have := HJ2.out; first | omega | exact Nat.le_refl _⟩, ⟨by repeat (first | (with_reducible first | exact HB.out | apply below_alloc | apply pw_below_drewN | apply below_drew1) | exact HB.out)⟩⟩
      case rest =>
        clear HC11
        try clear c1
        try clear c2
        try clear p2
        try clear c4
        try clear c5
        try clear c6
        try clear c6b0
        try clear c6b1
        try clear c8
        try clear c9
        try clear c9b0
        try clear c9b1
        try clear c13
        try clear c14
        try clear c14b0
        try clear c14b1
        try clear p2
        obtain ⟨kq, x39_10, rfl, HA, HJ10, HB⟩ := hcut
        cases kq with
        | zero => exact absurd HA.out (by simp [resolve_Int.j1])
        | succ kj10 =>
          have H := HA.out
          clear HA
          simp only [resolve_Int.j1] at H
          by_cases c15 : x39_10 = true
          · subst c15
            have H1 : (some (0, false)) = some (r1, r2) := by rw [if_pos rfl] at H; exact H
            clear H
            have H := H1
            clear H1
            simp only [Option.some.injEq, Prod.mk.injEq] at H
            obtain ⟨rfl, rfl⟩ := H
            go_wp2
            go_ret2
            exact ⟨by first | rfl | (simp [errW_none, errW_some] <;> rfl) | (simp [*, errW_none, errW_some] <;> rfl), by repeat (first | (with_reducible first | exact HB.out | apply below_alloc | apply pw_below_drewN | apply below_drew1) | exact HB.out)⟩
          · replace c15 := Bool.eq_false_iff.mpr c15
            subst c15
            have H1 : (if t217 = true then (some (wrap64 (IntKind.u64.wrap (-t220)), true)) else (some (wrap64 (t220), true))) = some (r1, r2) := by rw [if_neg (show ¬ (false = true) by decide)] at H; exact H
            clear H
            have H := H1
            clear H1
            by_cases c16 : t217 = true
            · subst c16
              have H1 : (some (wrap64 (IntKind.u64.wrap (-t220)), true)) = some (r1, r2) := by rw [if_pos rfl] at H; exact H
              clear H
              have H := H1
              clear H1
              simp only [Option.some.injEq, Prod.mk.injEq] at H
              obtain ⟨rfl, rfl⟩ := H
              go_wp2
              go_ret2
              exact ⟨by first | rfl | (simp [errW_none, errW_some] <;> rfl) | (simp [*, errW_none, errW_some] <;> rfl), by repeat (first | (with_reducible first | exact HB.out | apply below_alloc | apply pw_below_drewN | apply below_drew1) | exact HB.out)⟩
            · replace c16 := Bool.eq_false_iff.mpr c16
              subst c16
              have H1 : (some (wrap64 (t220), true)) = some (r1, r2) := by rw [if_neg (show ¬ (false = true) by decide)] at H; exact H
              clear H
              have H := H1
              clear H1
              simp only [Option.some.injEq, Prod.mk.injEq] at H
              obtain ⟨rfl, rfl⟩ := H
              go_wp2
              go_ret2
              exact ⟨by first | rfl | (simp [errW_none, errW_some] <;> rfl) | (simp [*, errW_none, errW_some] <;> rfl), by repeat (first | (with_reducible first | exact HB.out | apply below_alloc | apply pw_below_drewN | apply below_drew1) | exact HB.out)⟩

/-! ### resolve_digits: function 54 -/
def resolve_digits.l0 : Nat → ByteArray → ByteArray → Int → Option (Int)
  | 0, _, _, _ => none
  | k + 1, x0, x223000, x223001 => if 0 ≤ x223001 then (if x223001 < (x223000.size : Int) then (if (rdRune x223000 x223001) < 48 then (some x223001) else (if (rdRune x223000 x223001) > 57 then (some x223001) else (resolve_digits.l0 k x0 x223000 (rdNext x223000 x223001)))) else (some (x0.size : Int))) else (none)
def resolve_digits.f (k : Nat) (a0 : ByteArray) : Option (Int) := resolve_digits.l0 k a0 a0 0
theorem resolve_digits.mono_l : ∀ k, (∀ y0 y1 y2, LeO (resolve_digits.l0 k y0 y1 y2) (resolve_digits.l0 (k + 1) y0 y1 y2))
  | 0 => fun _ _ _ r h => by simp [resolve_digits.l0] at h
  | k + 1 => by
    have ih0 := resolve_digits.mono_l k
    · intro y0 y1 y2
      unfold resolve_digits.l0
      repeat' first
      | (with_reducible exact ih0 _ _ _)
      | (with_reducible exact LeO.refl _)
      | (with_reducible exact LeO.none _)
      | (with_reducible refine LeO.ite ?_ ?_)
      | (with_reducible refine LeO.bind ?_ (fun _ => ?_))
      | exact ih0 _ _ _
      | exact LeO.none _
      | refine LeO.ite ?_ ?_
      | refine LeO.bind ?_ (fun _ => ?_)
theorem resolve_digits.mono : ∀ a0 k, LeO (resolve_digits.f k a0) (resolve_digits.f (k + 1) a0) := by
  intro a0 k
  have ih0 := resolve_digits.mono_l k
  unfold resolve_digits.f
  repeat' first
      | (with_reducible exact ih0 _ _ _)
      | (with_reducible exact LeO.refl _)
      | (with_reducible exact LeO.none _)
      | (with_reducible refine LeO.ite ?_ ?_)
      | (with_reducible refine LeO.bind ?_ (fun _ => ?_))
      | exact ih0 _ _ _
      | exact LeO.none _
      | refine LeO.ite ?_ ?_
      | refine LeO.bind ?_ (fun _ => ?_)
set_option maxHeartbeats 8000000 in
set_option maxRecDepth 100000 in
theorem resolve_digits.calls (k : Nat) (a0 : ByteArray) (r : Int) (w : World) (h : resolve_digits.f k a0 = some r) :
    Calls Try.prog 54 #[.string a0] w fun e w' => e = .returned (.int .i64 r) ∧ Below w.heap.size w w' := by
  have HB := Aside0.mk (Below.refl w.heap.size w)
  have H : (resolve_digits.l0 k a0 a0 0) = some r := h
  clear h
  have H' := Aside0.mk H
  clear H
  go_enter Try.func54, Try.ntmps54
  go_wp2_with (first | ((with_reducible refine gate_dst (N := 6) rfl ?_); refine iter_event ?hg (N := 6) ?hd (s := a0) ?hr ?_; (case hd => rfl); (case hg => rfl); (case hr => first | (go_simp; done) | (go_simp; rfl)); intro gb222 hg w2 hbox hb; have n0_ := Aside0.mk (below_step (by repeat (first | (with_reducible first | exact HB.out | apply below_alloc | apply pw_below_drewN | apply below_drew1) | exact HB.out)) hb); have n1_ := Aside0.mk (hbox); have n2_ := Aside0.mk ((by rw [hg]; exact (below_size (by repeat (first | (with_reducible first | exact HB.out | apply below_alloc | apply pw_below_drewN | apply below_drew1) | exact HB.out))) : w.heap.size ≤ gb222)); have n3_ := Aside0.mk ((by rw [hg]; exact (below_size (by repeat (first | (with_reducible first | exact HB.out | apply below_alloc | apply pw_below_drewN | apply below_drew1) | exact HB.out))) : w.heap.size ≤ gb222)); clear HB; have HB := n0_; have BK222 := n1_; have GW222 := n2_; have GE222 := n3_; clear n0_ n1_ n2_ n3_; clear hb hbox hg))
  (try simp only [Act.put, List.setIfInBounds_toArray, List.set_cons_zero, List.set_cons_succ])
  go_loopg [] k (fun kq w' => ∃ (x223001_1 : Int), Aside0 (resolve_digits.l0 kq a0 a0 x223001_1 = some r) ∧ Aside0 (kq ≤ k) ∧ Aside0 (w'.heap[gb222]? = some (.stringIter a0 (x223001_1 : Int).toNat)) ∧ Aside0 (Below w.heap.size w w'))
  case atStart => exact ⟨(0), H', ⟨Nat.le_refl _⟩, ⟨by (with_reducible repeat (first | refine blk_drewN ?_ _ | refine blk_drew ?_ | refine blk_alloc ?_ _)); exact BK222.out⟩, ⟨by repeat (first | (with_reducible first | exact HB.out | apply below_alloc | apply pw_below_drewN | apply below_drew1 | refine below_set ?_ GE222.out) | exact HB.out)⟩⟩
  case round =>
    clear H'
    try clear p2
    obtain ⟨x223001_1, HA, HK1, BK222, HB⟩ := hrel
    cases gk with
    | zero => exact absurd HA.out (by simp [resolve_digits.l0])
    | succ k1 =>
      have H := HA.out
      clear HA
      simp only [resolve_digits.l0] at H
      by_cases c3 : 0 ≤ x223001_1
      · rw [if_pos c3] at H
        have c3b0 : decide (0 ≤ x223001_1) = true := decide_eq_true c3
        clear c3
        by_cases c4 : x223001_1 < (a0.size : Int)
        · rw [if_pos c4] at H
          have c4b0 : decide (x223001_1 < (a0.size : Int)) = true := decide_eq_true c4
          clear c4
          by_cases c5 : (rdRune a0 x223001_1) < 48
          · rw [if_pos c5] at H
            have c5b0 : decide ((rdRune a0 x223001_1) < 48) = true := decide_eq_true c5
            clear c5
            obtain rfl := Option.some.inj H
            have pn6 : Aside0 (0 ≤ (x223001_1 : Int)) := ⟨of_decide_eq_true (by first | (with_reducible assumption) | assumption)⟩
            have qn6 : Aside0 (x223001_1 < (a0.size : Int)) := ⟨of_decide_eq_true (by first | (with_reducible assumption) | assumption)⟩
            go_wp2_with (first | ((with_reducible refine gate_dst (N := 7) rfl ?_); refine next_event ?hg (N := 7) ?hd ?ho (x := .tmp 6) (g := gb222) (s := a0) (p := x223001_1) ?hx BK222.out pn6.out qn6.out ?_; (case hd => rfl); (case hg => rfl); (case ho => rfl); (case hx => rfl); intro w7 hit hg; have n0_ := Aside0.mk (hit); have n1_ := Aside0.mk (pw_below_grown (by repeat (first | (with_reducible first | exact HB.out | apply below_alloc | apply pw_below_drewN | apply below_drew1 | refine below_set ?_ GE222.out) | exact HB.out)) (some gb222) ((below_size (by repeat (first | (with_reducible first | exact HB.out | apply below_alloc | apply pw_below_drewN | apply below_drew1 | refine below_set ?_ GE222.out) | exact HB.out)))) hg (fun k_ e_ => by injection e_ with e_; subst e_; exact GW222.out)); clear BK222; clear HB; have BK222 := n0_; have HB := n1_; clear n0_ n1_; clear hit hg))
            go_ret
            exact ⟨by first | rfl | (simp [errW_none, errW_some] <;> rfl) | (simp [*, errW_none, errW_some] <;> rfl), by repeat (first | (with_reducible first | exact HB.out | apply below_alloc | apply pw_below_drewN | apply below_drew1 | refine below_set ?_ GE222.out) | exact HB.out)⟩
          · rw [if_neg c5] at H
            have c5b0 : decide ((rdRune a0 x223001_1) < 48) = false := decide_eq_false c5
            clear c5
            by_cases c8 : (rdRune a0 x223001_1) > 57
            · rw [if_pos c8] at H
              have c8b0 : decide (57 < (rdRune a0 x223001_1)) = true := decide_eq_true c8
              clear c8
              obtain rfl := Option.some.inj H
              have pn9 : Aside0 (0 ≤ (x223001_1 : Int)) := ⟨of_decide_eq_true (by first | (with_reducible assumption) | assumption)⟩
              have qn9 : Aside0 (x223001_1 < (a0.size : Int)) := ⟨of_decide_eq_true (by first | (with_reducible assumption) | assumption)⟩
              go_wp2_with (first | ((with_reducible refine gate_dst (N := 7) rfl ?_); refine next_event ?hg (N := 7) ?hd ?ho (x := .tmp 6) (g := gb222) (s := a0) (p := x223001_1) ?hx BK222.out pn9.out qn9.out ?_; (case hd => rfl); (case hg => rfl); (case ho => rfl); (case hx => rfl); intro w10 hit hg; have n0_ := Aside0.mk (hit); have n1_ := Aside0.mk (pw_below_grown (by repeat (first | (with_reducible first | exact HB.out | apply below_alloc | apply pw_below_drewN | apply below_drew1 | refine below_set ?_ GE222.out) | exact HB.out)) (some gb222) ((below_size (by repeat (first | (with_reducible first | exact HB.out | apply below_alloc | apply pw_below_drewN | apply below_drew1 | refine below_set ?_ GE222.out) | exact HB.out)))) hg (fun k_ e_ => by injection e_ with e_; subst e_; exact GW222.out)); clear BK222; clear HB; have BK222 := n0_; have HB := n1_; clear n0_ n1_; clear hit hg))
              go_ret
              exact ⟨by first | rfl | (simp [errW_none, errW_some] <;> rfl) | (simp [*, errW_none, errW_some] <;> rfl), by repeat (first | (with_reducible first | exact HB.out | apply below_alloc | apply pw_below_drewN | apply below_drew1 | refine below_set ?_ GE222.out) | exact HB.out)⟩
            · rw [if_neg c8] at H
              have c8b0 : decide (57 < (rdRune a0 x223001_1)) = false := decide_eq_false c8
              clear c8
              have H' := Aside0.mk H
              clear H
              have pn11 : Aside0 (0 ≤ (x223001_1 : Int)) := ⟨of_decide_eq_true (by first | (with_reducible assumption) | assumption)⟩
              have qn11 : Aside0 (x223001_1 < (a0.size : Int)) := ⟨of_decide_eq_true (by first | (with_reducible assumption) | assumption)⟩
              go_wp2_with (first | ((with_reducible refine gate_dst (N := 7) rfl ?_); refine next_event ?hg (N := 7) ?hd ?ho (x := .tmp 6) (g := gb222) (s := a0) (p := x223001_1) ?hx BK222.out pn11.out qn11.out ?_; (case hd => rfl); (case hg => rfl); (case ho => rfl); (case hx => rfl); intro w12 hit hg; have n0_ := Aside0.mk (hit); have n1_ := Aside0.mk (pw_below_grown (by repeat (first | (with_reducible first | exact HB.out | apply below_alloc | apply pw_below_drewN | apply below_drew1 | refine below_set ?_ GE222.out) | exact HB.out)) (some gb222) ((below_size (by repeat (first | (with_reducible first | exact HB.out | apply below_alloc | apply pw_below_drewN | apply below_drew1 | refine below_set ?_ GE222.out) | exact HB.out)))) hg (fun k_ e_ => by injection e_ with e_; subst e_; exact GW222.out)); clear BK222; clear HB; have BK222 := n0_; have HB := n1_; clear n0_ n1_; clear hit hg))
              go_roundg k1
              case measure => have := HK1.out; omega
              case rel => exact ⟨(rdNext a0 x223001_1), H', ⟨by have := HK1.out; omega⟩, ⟨by (with_reducible repeat (first | refine blk_drewN ?_ _ | refine blk_drew ?_ | refine blk_alloc ?_ _)); exact BK222.out⟩, ⟨by repeat (first | (with_reducible first | exact HB.out | apply below_alloc | apply pw_below_drewN | apply below_drew1 | refine below_set ?_ GE222.out) | exact HB.out)⟩⟩
        · rw [if_neg c4] at H
          have c4b0 : decide (x223001_1 < (a0.size : Int)) = false := decide_eq_false c4
          clear c4
          obtain rfl := Option.some.inj H
          have hnx13 := next_end (P := Try.prog) (s := a0) (p := x223001_1) BK222.out (of_decide_eq_false (by first | (with_reducible assumption) | assumption))
          go_wp2
          go_ret
          exact ⟨by first | rfl | (simp [errW_none, errW_some] <;> rfl) | (simp [*, errW_none, errW_some] <;> rfl), by repeat (first | (with_reducible first | exact HB.out | apply below_alloc | apply pw_below_drewN | apply below_drew1 | refine below_set ?_ GE222.out) | exact HB.out)⟩
      · rw [if_neg c3] at H
        exact absurd H (by simp)

/-! ### resolve_float: function 44 -/
mutual
def resolve_float.j0 : Nat → ByteArray → Int → Option (Bool)
  | 0, _, _ => none
  | k + 1, x0, x3 => if x3 = 0 then (resolve_float.j1 k x0 x3 true) else (resolve_float.j1 k x0 x3 x0.toList.isEmpty)
def resolve_float.j1 : Nat → ByteArray → Int → Bool → Option (Bool)
  | 0, _, _, _ => none
  | k + 1, x0, x3, x46 => if x46 = true then (if x3 > 0 then (some x0.toList.isEmpty) else (some false)) else (if 0 < (x0.size : Int) then (if (bt x0 0) = 101 then (resolve_float.j2 k x0 false) else (resolve_float.j2 k x0 ((bt x0 0) != 69))) else (none))
def resolve_float.j2 : Nat → ByteArray → Bool → Option (Bool)
  | 0, _, _ => none
  | k + 1, x0, x54 => if x54 = true then (some false) else (if 1 ≤ (x0.size : Int) then ((resolve_sign.f (x0.extract 1 x0.size)).bind fun bt229 => ((resolve_digits.f k bt229.1).bind fun t231 => (if 0 ≤ t231 then (if t231 ≤ (bt229.1.size : Int) then (if t231 > 0 then (some (((bt229.1.extract (t231 : Int).toNat bt229.1.size).toList).isEmpty)) else (some false)) else (none)) else (none)))) else (none))
end
def resolve_float.f (k : Nat) (a0 : ByteArray) : Option (Bool) := if a0.toList = ([46, 110, 97, 110] : List UInt8) then (some true) else (if a0.toList = ([46, 78, 97, 78] : List UInt8) then (some true) else (if a0.toList = ([46, 78, 65, 78] : List UInt8) then (some true) else ((resolve_sign.f a0).bind fun bt223 => (if bt223.1.toList = ([46, 105, 110, 102] : List UInt8) then (some true) else (if bt223.1.toList = ([46, 73, 110, 102] : List UInt8) then (some true) else (if bt223.1.toList = ([46, 73, 78, 70] : List UInt8) then (some true) else ((resolve_digits.f k bt223.1).bind fun t225 => (if 0 ≤ t225 then (if t225 ≤ (bt223.1.size : Int) then ((strings_CutPrefix.f (bt223.1.extract (t225 : Int).toNat bt223.1.size) (⟨#[46]⟩ : ByteArray)).bind fun bt226 => (if bt226.2 = true then ((resolve_digits.f k bt226.1).bind fun t228 => (if 0 ≤ t228 then (if t228 ≤ (bt226.1.size : Int) then (resolve_float.j0 k (bt226.1.extract (t228 : Int).toNat bt226.1.size) (wrap64 (t225 + t228))) else (none)) else (none))) else (resolve_float.j0 k (bt223.1.extract (t225 : Int).toNat bt223.1.size) t225))) else (none)) else (none)))))))))
theorem resolve_float.mono_l : ∀ k, (∀ y0 y1, LeO (resolve_float.j0 k y0 y1) (resolve_float.j0 (k + 1) y0 y1)) ∧ (∀ y0 y1 y2, LeO (resolve_float.j1 k y0 y1 y2) (resolve_float.j1 (k + 1) y0 y1 y2)) ∧ (∀ y0 y1, LeO (resolve_float.j2 k y0 y1) (resolve_float.j2 (k + 1) y0 y1))
  | 0 => ⟨fun _ _ r h => by simp [resolve_float.j0] at h, fun _ _ _ r h => by simp [resolve_float.j1] at h, fun _ _ r h => by simp [resolve_float.j2] at h⟩
  | k + 1 => by
    obtain ⟨ih0, ih1, ih2⟩ := resolve_float.mono_l k
    refine ⟨?_, ?_, ?_⟩
    · intro y0 y1
      unfold resolve_float.j0
      repeat' first
      | (with_reducible exact ih0 _ _)
      | (with_reducible exact ih1 _ _ _)
      | (with_reducible exact ih2 _ _)
      | (with_reducible exact resolve_digits.mono _ _)
      | (with_reducible exact LeO.refl _)
      | (with_reducible exact LeO.none _)
      | (with_reducible refine LeO.ite ?_ ?_)
      | (with_reducible refine LeO.bind ?_ (fun _ => ?_))
      | exact ih0 _ _
      | exact ih1 _ _ _
      | exact ih2 _ _
      | exact resolve_digits.mono _ _
      | exact LeO.none _
      | refine LeO.ite ?_ ?_
      | refine LeO.bind ?_ (fun _ => ?_)
    · intro y0 y1 y2
      unfold resolve_float.j1
      repeat' first
      | (with_reducible exact ih0 _ _)
      | (with_reducible exact ih1 _ _ _)
      | (with_reducible exact ih2 _ _)
      | (with_reducible exact resolve_digits.mono _ _)
      | (with_reducible exact LeO.refl _)
      | (with_reducible exact LeO.none _)
      | (with_reducible refine LeO.ite ?_ ?_)
      | (with_reducible refine LeO.bind ?_ (fun _ => ?_))
      | exact ih0 _ _
      | exact ih1 _ _ _
      | exact ih2 _ _
      | exact resolve_digits.mono _ _
      | exact LeO.none _
      | refine LeO.ite ?_ ?_
      | refine LeO.bind ?_ (fun _ => ?_)
    · intro y0 y1
      unfold resolve_float.j2
      repeat' first
      | (with_reducible exact ih0 _ _)
      | (with_reducible exact ih1 _ _ _)
      | (with_reducible exact ih2 _ _)
      | (with_reducible exact resolve_digits.mono _ _)
      | (with_reducible exact LeO.refl _)
      | (with_reducible exact LeO.none _)
      | (with_reducible refine LeO.ite ?_ ?_)
      | (with_reducible refine LeO.bind ?_ (fun _ => ?_))
      | exact ih0 _ _
      | exact ih1 _ _ _
      | exact ih2 _ _
      | exact resolve_digits.mono _ _
      | exact LeO.none _
      | refine LeO.ite ?_ ?_
      | refine LeO.bind ?_ (fun _ => ?_)
theorem resolve_float.mono : ∀ a0 k, LeO (resolve_float.f k a0) (resolve_float.f (k + 1) a0) := by
  intro a0 k
  obtain ⟨ih0, ih1, ih2⟩ := resolve_float.mono_l k
  unfold resolve_float.f
  repeat' first
      | (with_reducible exact ih0 _ _)
      | (with_reducible exact ih1 _ _ _)
      | (with_reducible exact ih2 _ _)
      | (with_reducible exact resolve_digits.mono _ _)
      | (with_reducible exact LeO.refl _)
      | (with_reducible exact LeO.none _)
      | (with_reducible refine LeO.ite ?_ ?_)
      | (with_reducible refine LeO.bind ?_ (fun _ => ?_))
      | exact ih0 _ _
      | exact ih1 _ _ _
      | exact ih2 _ _
      | exact resolve_digits.mono _ _
      | exact LeO.none _
      | refine LeO.ite ?_ ?_
      | refine LeO.bind ?_ (fun _ => ?_)
set_option maxHeartbeats 8000000 in
set_option maxRecDepth 100000 in
theorem resolve_float.calls (k : Nat) (a0 : ByteArray) (r : Bool) (w : World) (h : resolve_float.f k a0 = some r) :
    Calls Try.prog 44 #[.string a0] w fun e w' => e = .returned (.bool r) ∧ Below w.heap.size w w' := by
  have HB := Aside0.mk (Below.refl w.heap.size w)
  have H : (if a0.toList = ([46, 110, 97, 110] : List UInt8) then (some true) else (if a0.toList = ([46, 78, 97, 78] : List UInt8) then (some true) else (if a0.toList = ([46, 78, 65, 78] : List UInt8) then (some true) else ((resolve_sign.f a0).bind fun bt223 => (if bt223.1.toList = ([46, 105, 110, 102] : List UInt8) then (some true) else (if bt223.1.toList = ([46, 73, 110, 102] : List UInt8) then (some true) else (if bt223.1.toList = ([46, 73, 78, 70] : List UInt8) then (some true) else ((resolve_digits.f k bt223.1).bind fun t225 => (if 0 ≤ t225 then (if t225 ≤ (bt223.1.size : Int) then ((strings_CutPrefix.f (bt223.1.extract (t225 : Int).toNat bt223.1.size) (⟨#[46]⟩ : ByteArray)).bind fun bt226 => (if bt226.2 = true then ((resolve_digits.f k bt226.1).bind fun t228 => (if 0 ≤ t228 then (if t228 ≤ (bt226.1.size : Int) then (resolve_float.j0 k (bt226.1.extract (t228 : Int).toNat bt226.1.size) (wrap64 (t225 + t228))) else (none)) else (none))) else (resolve_float.j0 k (bt223.1.extract (t225 : Int).toNat bt223.1.size) t225))) else (none)) else (none)))))))))) = some r := h
  clear h
  by_cases c2 : a0.toList = ([46, 110, 97, 110] : List UInt8)
  · rw [if_pos c2] at H
    have c2b0 : (a0.toList == ([46, 110, 97, 110] : List UInt8)) = true := beq_iff_eq.mpr c2
    have c2b1 : (a0.toList != ([46, 110, 97, 110] : List UInt8)) = false := bne_eq_false_iff_eq.mpr c2
    clear c2
    obtain rfl := Option.some.inj H
    go_enter Try.func44, Try.ntmps44
    go_wp2_with (first | ((with_reducible refine wp_scope_fwd (rest := ?rr) 0 ?hfl ?_); (case hfl => rfl)) | ((with_reducible apply wp_label)) | ((with_reducible apply wp_goto)) | ((with_reducible apply ExitFwd_go)))
    go_ret
    exact ⟨by first | rfl | (simp [errW_none, errW_some] <;> rfl) | (simp [*, errW_none, errW_some] <;> rfl), by repeat (first | (with_reducible first | exact HB.out | apply below_alloc | apply pw_below_drewN | apply below_drew1) | exact HB.out)⟩
  · rw [if_neg c2] at H
    have c2b0 : (a0.toList == ([46, 110, 97, 110] : List UInt8)) = false := beq_eq_false_iff_ne.mpr c2
    have c2b1 : (a0.toList != ([46, 110, 97, 110] : List UInt8)) = true := bne_iff_ne.mpr c2
    by_cases c3 : a0.toList = ([46, 78, 97, 78] : List UInt8)
    · rw [if_pos c3] at H
      have c3b0 : (a0.toList == ([46, 78, 97, 78] : List UInt8)) = true := beq_iff_eq.mpr c3
      have c3b1 : (a0.toList != ([46, 78, 97, 78] : List UInt8)) = false := bne_eq_false_iff_eq.mpr c3
      clear c3
      obtain rfl := Option.some.inj H
      go_enter Try.func44, Try.ntmps44
      go_wp2_with (first | ((with_reducible refine wp_scope_fwd (rest := ?rr) 0 ?hfl ?_); (case hfl => rfl)) | ((with_reducible apply wp_label)) | ((with_reducible apply wp_goto)) | ((with_reducible apply ExitFwd_go)))
      go_ret
      exact ⟨by first | rfl | (simp [errW_none, errW_some] <;> rfl) | (simp [*, errW_none, errW_some] <;> rfl), by repeat (first | (with_reducible first | exact HB.out | apply below_alloc | apply pw_below_drewN | apply below_drew1) | exact HB.out)⟩
    · rw [if_neg c3] at H
      have c3b0 : (a0.toList == ([46, 78, 97, 78] : List UInt8)) = false := beq_eq_false_iff_ne.mpr c3
      have c3b1 : (a0.toList != ([46, 78, 97, 78] : List UInt8)) = true := bne_iff_ne.mpr c3
      by_cases c4 : a0.toList = ([46, 78, 65, 78] : List UInt8)
      · rw [if_pos c4] at H
        have c4b0 : (a0.toList == ([46, 78, 65, 78] : List UInt8)) = true := beq_iff_eq.mpr c4
        have c4b1 : (a0.toList != ([46, 78, 65, 78] : List UInt8)) = false := bne_eq_false_iff_eq.mpr c4
        clear c4
        obtain rfl := Option.some.inj H
        go_enter Try.func44, Try.ntmps44
        go_wp2_with (first | ((with_reducible refine wp_scope_fwd (rest := ?rr) 0 ?hfl ?_); (case hfl => rfl)) | ((with_reducible apply wp_label)) | ((with_reducible apply wp_goto)) | ((with_reducible apply ExitFwd_go)))
        go_ret
        exact ⟨by first | rfl | (simp [errW_none, errW_some] <;> rfl) | (simp [*, errW_none, errW_some] <;> rfl), by repeat (first | (with_reducible first | exact HB.out | apply below_alloc | apply pw_below_drewN | apply below_drew1) | exact HB.out)⟩
      · rw [if_neg c4] at H
        have c4b0 : (a0.toList == ([46, 78, 65, 78] : List UInt8)) = false := beq_eq_false_iff_ne.mpr c4
        have c4b1 : (a0.toList != ([46, 78, 65, 78] : List UInt8)) = true := bne_iff_ne.mpr c4
        replace H := Option.bind_eq_some_iff.mp H
        obtain ⟨⟨t223, t224⟩, A50, H⟩ := H
        replace H : (if t223.toList = ([46, 105, 110, 102] : List UInt8) then (some true) else (if t223.toList = ([46, 73, 110, 102] : List UInt8) then (some true) else (if t223.toList = ([46, 73, 78, 70] : List UInt8) then (some true) else ((resolve_digits.f k t223).bind fun t225 => (if 0 ≤ t225 then (if t225 ≤ (t223.size : Int) then ((strings_CutPrefix.f (t223.extract (t225 : Int).toNat t223.size) (⟨#[46]⟩ : ByteArray)).bind fun bt226 => (if bt226.2 = true then ((resolve_digits.f k bt226.1).bind fun t228 => (if 0 ≤ t228 then (if t228 ≤ (bt226.1.size : Int) then (resolve_float.j0 k (bt226.1.extract (t228 : Int).toNat bt226.1.size) (wrap64 (t225 + t228))) else (none)) else (none))) else (resolve_float.j0 k (t223.extract (t225 : Int).toNat t223.size) t225))) else (none)) else (none)))))) = some r := H
        have A5 := Aside0.mk A50
        clear A50
        by_cases c6 : t223.toList = ([46, 105, 110, 102] : List UInt8)
        · rw [if_pos c6] at H
          have c6b0 : (t223.toList == ([46, 105, 110, 102] : List UInt8)) = true := beq_iff_eq.mpr c6
          have c6b1 : (t223.toList != ([46, 105, 110, 102] : List UInt8)) = false := bne_eq_false_iff_eq.mpr c6
          clear c6
          obtain rfl := Option.some.inj H
          go_enter Try.func44, Try.ntmps44
          go_wp2_with (first | ((with_reducible refine wp_scope_fwd (rest := ?rr) 0 ?hfl ?_); (case hfl => rfl)) | ((with_reducible apply wp_label)) | ((with_reducible apply wp_goto)) | ((with_reducible apply ExitFwd_go)) | ((with_reducible refine gate_callee (f := 41) rfl ?_); refine goesL_ (some 14) rfl rfl Try.func41 (by kernel_rfl) rfl #[.string a0] rfl (by (try simp only [List.map_toArray, List.map_cons, List.map_nil]); first | done | rfl | (simp only [List.length_drop, List.length_take]; rfl) | (simp only [ByteArray.size_extract, Nat.min_self]; done) | (simp only [ByteArray.size_extract, Nat.min_self]; rfl)) ?_; (with_reducible refine (resolve_sign.calls a0 t223 t224 _ A5.out).mono ?_); rintro e w' ⟨rfl, ⟨nd, rfl⟩⟩; refine ⟨_, rfl, ?_⟩))
          go_ret
          exact ⟨by first | rfl | (simp [errW_none, errW_some] <;> rfl) | (simp [*, errW_none, errW_some] <;> rfl), by repeat (first | (with_reducible first | exact HB.out | apply below_alloc | apply pw_below_drewN | apply below_drew1) | exact HB.out)⟩
        · rw [if_neg c6] at H
          have c6b0 : (t223.toList == ([46, 105, 110, 102] : List UInt8)) = false := beq_eq_false_iff_ne.mpr c6
          have c6b1 : (t223.toList != ([46, 105, 110, 102] : List UInt8)) = true := bne_iff_ne.mpr c6
          by_cases c7 : t223.toList = ([46, 73, 110, 102] : List UInt8)
          · rw [if_pos c7] at H
            have c7b0 : (t223.toList == ([46, 73, 110, 102] : List UInt8)) = true := beq_iff_eq.mpr c7
            have c7b1 : (t223.toList != ([46, 73, 110, 102] : List UInt8)) = false := bne_eq_false_iff_eq.mpr c7
            clear c7
            obtain rfl := Option.some.inj H
            go_enter Try.func44, Try.ntmps44
            go_wp2_with (first | ((with_reducible refine wp_scope_fwd (rest := ?rr) 0 ?hfl ?_); (case hfl => rfl)) | ((with_reducible apply wp_label)) | ((with_reducible apply wp_goto)) | ((with_reducible apply ExitFwd_go)) | ((with_reducible refine gate_callee (f := 41) rfl ?_); refine goesL_ (some 14) rfl rfl Try.func41 (by kernel_rfl) rfl #[.string a0] rfl (by (try simp only [List.map_toArray, List.map_cons, List.map_nil]); first | done | rfl | (simp only [List.length_drop, List.length_take]; rfl) | (simp only [ByteArray.size_extract, Nat.min_self]; done) | (simp only [ByteArray.size_extract, Nat.min_self]; rfl)) ?_; (with_reducible refine (resolve_sign.calls a0 t223 t224 _ A5.out).mono ?_); rintro e w' ⟨rfl, ⟨nd, rfl⟩⟩; refine ⟨_, rfl, ?_⟩))
            go_ret
            exact ⟨by first | rfl | (simp [errW_none, errW_some] <;> rfl) | (simp [*, errW_none, errW_some] <;> rfl), by repeat (first | (with_reducible first | exact HB.out | apply below_alloc | apply pw_below_drewN | apply below_drew1) | exact HB.out)⟩
          · rw [if_neg c7] at H
            have c7b0 : (t223.toList == ([46, 73, 110, 102] : List UInt8)) = false := beq_eq_false_iff_ne.mpr c7
            have c7b1 : (t223.toList != ([46, 73, 110, 102] : List UInt8)) = true := bne_iff_ne.mpr c7
            by_cases c8 : t223.toList = ([46, 73, 78, 70] : List UInt8)
            · rw [if_pos c8] at H
              have c8b0 : (t223.toList == ([46, 73, 78, 70] : List UInt8)) = true := beq_iff_eq.mpr c8
              have c8b1 : (t223.toList != ([46, 73, 78, 70] : List UInt8)) = false := bne_eq_false_iff_eq.mpr c8
              clear c8
              obtain rfl := Option.some.inj H
              go_enter Try.func44, Try.ntmps44
              go_wp2_with (first | ((with_reducible refine wp_scope_fwd (rest := ?rr) 0 ?hfl ?_); (case hfl => rfl)) | ((with_reducible apply wp_label)) | ((with_reducible apply wp_goto)) | ((with_reducible apply ExitFwd_go)) | ((with_reducible refine gate_callee (f := 41) rfl ?_); refine goesL_ (some 14) rfl rfl Try.func41 (by kernel_rfl) rfl #[.string a0] rfl (by (try simp only [List.map_toArray, List.map_cons, List.map_nil]); first | done | rfl | (simp only [List.length_drop, List.length_take]; rfl) | (simp only [ByteArray.size_extract, Nat.min_self]; done) | (simp only [ByteArray.size_extract, Nat.min_self]; rfl)) ?_; (with_reducible refine (resolve_sign.calls a0 t223 t224 _ A5.out).mono ?_); rintro e w' ⟨rfl, ⟨nd, rfl⟩⟩; refine ⟨_, rfl, ?_⟩))
              go_ret
              exact ⟨by first | rfl | (simp [errW_none, errW_some] <;> rfl) | (simp [*, errW_none, errW_some] <;> rfl), by repeat (first | (with_reducible first | exact HB.out | apply below_alloc | apply pw_below_drewN | apply below_drew1) | exact HB.out)⟩
            · rw [if_neg c8] at H
              have c8b0 : (t223.toList == ([46, 73, 78, 70] : List UInt8)) = false := beq_eq_false_iff_ne.mpr c8
              have c8b1 : (t223.toList != ([46, 73, 78, 70] : List UInt8)) = true := bne_iff_ne.mpr c8
              replace H := Option.bind_eq_some_iff.mp H
              obtain ⟨t225, A90, H⟩ := H
              replace H : (if 0 ≤ t225 then (if t225 ≤ (t223.size : Int) then ((strings_CutPrefix.f (t223.extract (t225 : Int).toNat t223.size) (⟨#[46]⟩ : ByteArray)).bind fun bt226 => (if bt226.2 = true then ((resolve_digits.f k bt226.1).bind fun t228 => (if 0 ≤ t228 then (if t228 ≤ (bt226.1.size : Int) then (resolve_float.j0 k (bt226.1.extract (t228 : Int).toNat bt226.1.size) (wrap64 (t225 + t228))) else (none)) else (none))) else (resolve_float.j0 k (t223.extract (t225 : Int).toNat t223.size) t225))) else (none)) else (none)) = some r := H
              have A9 := Aside0.mk A90
              clear A90
              by_cases c10 : 0 ≤ t225
              · rw [if_pos c10] at H
                have c10b0 := eq_true c10
                have c10b1 : decide (0 ≤ t225) = true := decide_eq_true c10
                clear c10
                by_cases c11 : t225 ≤ (t223.size : Int)
                · rw [if_pos c11] at H
                  have c11b0 := eq_true c11
                  have c11b1 : decide (t225 ≤ (t223.size : Int)) = true := decide_eq_true c11
                  clear c11
                  replace H := Option.bind_eq_some_iff.mp H
                  obtain ⟨⟨t226, t227⟩, A120, H⟩ := H
                  replace H : (if t227 = true then ((resolve_digits.f k t226).bind fun t228 => (if 0 ≤ t228 then (if t228 ≤ (t226.size : Int) then (resolve_float.j0 k (t226.extract (t228 : Int).toNat t226.size) (wrap64 (t225 + t228))) else (none)) else (none))) else (resolve_float.j0 k (t223.extract (t225 : Int).toNat t223.size) t225)) = some r := H
                  have A12 := Aside0.mk A120
                  clear A120
                  have HC13 := Aside0.mk H
                  clear H
                  go_enter Try.func44, Try.ntmps44
                  go_upto_if 32 with (first | ((with_reducible refine wp_scope_fwd (rest := ?rr) 0 ?hfl ?_); (case hfl => rfl)) | ((with_reducible apply wp_label)) | ((with_reducible apply wp_goto)) | ((with_reducible apply ExitFwd_go)) | ((with_reducible refine gate_callee (f := 41) rfl ?_); refine goesL_ (some 14) rfl rfl Try.func41 (by kernel_rfl) rfl #[.string a0] rfl (by (try simp only [List.map_toArray, List.map_cons, List.map_nil]); first | done | rfl | (simp only [List.length_drop, List.length_take]; rfl) | (simp only [ByteArray.size_extract, Nat.min_self]; done) | (simp only [ByteArray.size_extract, Nat.min_self]; rfl)) ?_; (with_reducible refine (resolve_sign.calls a0 t223 t224 _ A5.out).mono ?_); rintro e w' ⟨rfl, ⟨nd, rfl⟩⟩; refine ⟨_, rfl, ?_⟩) | ((with_reducible refine gate_callee (f := 54) rfl ?_); refine goesL_ (some 23) rfl rfl Try.func54 (by kernel_rfl) rfl #[.string t223] rfl (by (try simp only [List.map_toArray, List.map_cons, List.map_nil]); first | done | rfl | (simp only [List.length_drop, List.length_take]; rfl) | (simp only [ByteArray.size_extract, Nat.min_self]; done) | (simp only [ByteArray.size_extract, Nat.min_self]; rfl)) ?_; (with_reducible refine (resolve_digits.calls k t223 t225 _ A9.out).mono ?_); rintro e w14 ⟨rfl, hb⟩; refine ⟨_, rfl, ?_⟩; have n0_ := Aside0.mk (below_step (by repeat (first | (with_reducible first | exact HB.out | apply below_alloc | apply pw_below_drewN | apply below_drew1) | exact HB.out)) hb); clear HB; have HB := n0_; clear n0_; (try clear hb); (try clear hb2); (try clear hk); (try clear hi)) | ((with_reducible refine gate_callee (f := 50) rfl ?_); refine goesL_ (some 29) rfl rfl Try.func50 (by kernel_rfl) rfl #[.string (t223.extract (t225 : Int).toNat t223.size), .string (⟨#[46]⟩ : ByteArray)] rfl (by (try simp only [List.map_toArray, List.map_cons, List.map_nil]); first | done | rfl | (simp only [List.length_drop, List.length_take]; rfl) | (simp only [ByteArray.size_extract, Nat.min_self]; done) | (simp only [ByteArray.size_extract, Nat.min_self]; rfl)) ?_; (with_reducible refine (strings_CutPrefix.calls (t223.extract (t225 : Int).toNat t223.size) (⟨#[46]⟩ : ByteArray) t226 t227 _ A12.out).mono ?_); rintro e w' ⟨rfl, ⟨nd, rfl⟩⟩; refine ⟨_, rfl, ?_⟩))
                  (try simp only [Act.put, List.setIfInBounds_toArray, List.set_cons_zero, List.set_cons_succ])
                  go_cut [0, 3] (fun v0 v3 wc => ∃ (kq : Nat) (x0_12 : ByteArray) (x3_12 : Int), v0 = .string x0_12 ∧ v3 = .int .i64 x3_12 ∧ Aside0 (resolve_float.j0 kq x0_12 x3_12 = some r) ∧ Aside0 (kq ≤ k) ∧ Aside0 (Below w.heap.size w wc))
                  case first =>
                    have H := HC13.out
                    clear HC13
                    by_cases c15 : t227 = true
                    · subst c15
                      have H1 : ((resolve_digits.f k t226).bind fun t228 => (if 0 ≤ t228 then (if t228 ≤ (t226.size : Int) then (resolve_float.j0 k (t226.extract (t228 : Int).toNat t226.size) (wrap64 (t225 + t228))) else (none)) else (none))) = some r := by rw [if_pos rfl] at H; exact H
                      clear H
                      have H := H1
                      clear H1
                      replace H := Option.bind_eq_some_iff.mp H
                      obtain ⟨t228, A160, H⟩ := H
                      replace H : (if 0 ≤ t228 then (if t228 ≤ (t226.size : Int) then (resolve_float.j0 k (t226.extract (t228 : Int).toNat t226.size) (wrap64 (t225 + t228))) else (none)) else (none)) = some r := H
                      have A16 := Aside0.mk A160
                      clear A160
                      by_cases c17 : 0 ≤ t228
                      · rw [if_pos c17] at H
                        have c17b0 := eq_true c17
                        have c17b1 : decide (0 ≤ t228) = true := decide_eq_true c17
                        clear c17
                        by_cases c18 : t228 ≤ (t226.size : Int)
                        · rw [if_pos c18] at H
                          have c18b0 := eq_true c18
                          have c18b1 : decide (t228 ≤ (t226.size : Int)) = true := decide_eq_true c18
                          clear c18
                          have H' := Aside0.mk H
                          clear H
                          go_wp2_with (first | ((with_reducible refine wp_scope_fwd (rest := ?rr) 0 ?hfl ?_); (case hfl => rfl)) | ((with_reducible apply wp_label)) | ((with_reducible apply wp_goto)) | ((with_reducible apply ExitFwd_go)) | ((with_reducible refine gate_callee (f := 54) rfl ?_); refine goesL_ (some 34) rfl rfl Try.func54 (by kernel_rfl) rfl #[.string t226] rfl (by (try simp only [List.map_toArray, List.map_cons, List.map_nil]); first | done | rfl | (simp only [List.length_drop, List.length_take]; rfl) | (simp only [ByteArray.size_extract, Nat.min_self]; done) | (simp only [ByteArray.size_extract, Nat.min_self]; rfl)) ?_; (with_reducible refine (resolve_digits.calls k t226 t228 _ A16.out).mono ?_); rintro e w19 ⟨rfl, hb⟩; refine ⟨_, rfl, ?_⟩; have n0_ := Aside0.mk (below_step (by repeat (first | (with_reducible first | exact HB.out | apply below_alloc | apply pw_below_drewN | apply below_drew1) | exact HB.out)) hb); clear HB; have HB := n0_; clear n0_; (try clear hb); (try clear hb2); (try clear hk); (try clear hi)))
                          go_meet
                          case rel => exact ⟨_, (t226.extract (t228 : Int).toNat t226.size), (wrap64 (t225 + t228)), (by first | rfl | (simp; done) | (simp [*]; done)), (by first | rfl | (simp; done) | (simp [*]; done)), H', ⟨by first | omega | exact Nat.le_refl _⟩, ⟨by repeat (first | (with_reducible first | exact HB.out | apply below_alloc | apply pw_below_drewN | apply below_drew1) | exact HB.out)⟩⟩
                        · rw [if_neg c18] at H
                          exact absurd H (by simp)
                      · rw [if_neg c17] at H
                        exact absurd H (by simp)
                    · replace c15 := Bool.eq_false_iff.mpr c15
                      subst c15
                      have H1 : (resolve_float.j0 k (t223.extract (t225 : Int).toNat t223.size) t225) = some r := by rw [if_neg (show ¬ (false = true) by decide)] at H; exact H
                      clear H
                      have H := H1
                      clear H1
                      have H' := Aside0.mk H
                      clear H
                      go_wp2_with (first | ((with_reducible refine wp_scope_fwd (rest := ?rr) 0 ?hfl ?_); (case hfl => rfl)) | ((with_reducible apply wp_label)) | ((with_reducible apply wp_goto)) | ((with_reducible apply ExitFwd_go)))
                      go_meet
                      case rel => exact ⟨_, (t223.extract (t225 : Int).toNat t223.size), (t225), (by first | rfl | (simp; done) | (simp [*]; done)), (by first | rfl | (simp; done) | (simp [*]; done)), H', ⟨by first | omega | exact Nat.le_refl _⟩, ⟨by repeat (first | (with_reducible first | exact HB.out | apply below_alloc | apply pw_below_drewN | apply below_drew1) | exact HB.out)⟩⟩
                  case rest =>
                    clear HC13
                    try clear c1
                    try clear c2
                    try clear c2b0
                    try clear c2b1
                    try clear p2
                    try clear c3
                    try clear c3b0
                    try clear c3b1
                    try clear c4
                    try clear c4b0
                    try clear c4b1
                    try clear c5
                    try clear c6
                    try clear c6b0
                    try clear c6b1
                    try clear p6
                    try clear c7
                    try clear c7b0
                    try clear c7b1
                    try clear c8
                    try clear c8b0
                    try clear c8b1
                    try clear c10
                    try clear c10b0
                    try clear c10b1
                    try clear c11
                    try clear c11b0
                    try clear c11b1
                    try clear c15
                    try clear c17
                    try clear c17b0
                    try clear c17b1
                    try clear c18
                    try clear c18b0
                    try clear c18b1
                    obtain ⟨kq, x0_12, x3_12, rfl, rfl, HA, HJ12, HB⟩ := hcut
                    cases kq with
                    | zero => exact absurd HA.out (by simp [resolve_float.j0])
                    | succ kj12 =>
                      have H := HA.out
                      clear HA
                      simp only [resolve_float.j0] at H
                      have HC20 := Aside0.mk H
                      clear H
                      go_upto_region 20 with (first | ((with_reducible refine wp_scope_fwd (rest := ?rr) 0 ?hfl ?_); (case hfl => rfl)) | ((with_reducible apply wp_label)) | ((with_reducible apply wp_goto)) | ((with_reducible apply ExitFwd_go)))
                      (try simp only [Act.put, List.setIfInBounds_toArray, List.set_cons_zero, List.set_cons_succ])
                      go_cut [46] (fun v46 wc => ∃ (kq : Nat) (x46_19 : Bool), v46 = .bool x46_19 ∧ Aside0 (resolve_float.j1 kq x0_12 x3_12 x46_19 = some r) ∧ Aside0 (kq ≤ kj12) ∧ Aside0 (Below w.heap.size w wc))
                      case first =>
                        have H := HC20.out
                        clear HC20
                        by_cases c21 : x3_12 = 0
                        · rw [if_pos c21] at H
                          have c21b0 : (x3_12 == 0) = true := beq_iff_eq.mpr c21
                          have c21b1 : (x3_12 != 0) = false := bne_eq_false_iff_eq.mpr c21
                          clear c21
                          (first | rw [c21b0] | (simp only [i64_w, i32_w]; rw [c21b0]) | skip)
                          have H' := Aside0.mk H
                          clear H
                          go_wp2_with (first | ((with_reducible refine wp_scope_fwd (rest := ?rr) 0 ?hfl ?_); (case hfl => rfl)) | ((with_reducible apply wp_label)) | ((with_reducible apply wp_goto)) | ((with_reducible apply ExitFwd_go)))
                          go_meet
                          case rel => exact ⟨_, (true), (by first | rfl | (simp; done) | (simp [*]; done)), H', ⟨by have := HJ12.out; first | omega | exact Nat.le_refl _⟩, ⟨by repeat (first | (with_reducible first | exact HB.out | apply below_alloc | apply pw_below_drewN | apply below_drew1) | exact HB.out)⟩⟩
                        · rw [if_neg c21] at H
                          have c21b0 : (x3_12 == 0) = false := beq_eq_false_iff_ne.mpr c21
                          have c21b1 : (x3_12 != 0) = true := bne_iff_ne.mpr c21
                          (first | rw [c21b0] | (simp only [i64_w, i32_w]; rw [c21b0]) | skip)
                          have H' := Aside0.mk H
                          clear H
                          go_wp2_with (first | ((with_reducible refine wp_scope_fwd (rest := ?rr) 0 ?hfl ?_); (case hfl => rfl)) | ((with_reducible apply wp_label)) | ((with_reducible apply wp_goto)) | ((with_reducible apply ExitFwd_go)))
                          go_meet
                          case rel => exact ⟨_, (x0_12.toList.isEmpty), (by first | rfl | (simp; done) | (simp [*]; done)), H', ⟨by have := HJ12.out; first | omega | exact Nat.le_refl _⟩, ⟨by repeat (first | (with_reducible first | exact HB.out | apply below_alloc | apply pw_below_drewN | apply below_drew1) | exact HB.out)⟩⟩
                      case rest =>
                        clear HC20
                        try clear c1
                        try clear c2
                        try clear c2b0
                        try clear c2b1
                        try clear p2
                        try clear c3
                        try clear c3b0
                        try clear c3b1
                        try clear c4
                        try clear c4b0
                        try clear c4b1
                        try clear c5
                        try clear c6
                        try clear c6b0
                        try clear c6b1
                        try clear p6
                        try clear c7
                        try clear c7b0
                        try clear c7b1
                        try clear c8
                        try clear c8b0
                        try clear c8b1
                        try clear c10
                        try clear c10b0
                        try clear c10b1
                        try clear c11
                        try clear c11b0
                        try clear c11b1
                        try clear c15
                        try clear c17
                        try clear c17b0
                        try clear c17b1
                        try clear c18
                        try clear c18b0
                        try clear c18b1
                        try clear c21
                        try clear c21b0
                        try clear c21b1
                        try clear p2
                        try clear p6
                        obtain ⟨kq, x46_19, rfl, HA, HJ19, HB⟩ := hcut
                        cases kq with
                        | zero => exact absurd HA.out (by simp [resolve_float.j1])
                        | succ kj19 =>
                          have H := HA.out
                          clear HA
                          simp only [resolve_float.j1] at H
                          by_cases c22 : x46_19 = true
                          · subst c22
                            have H1 : (if x3_12 > 0 then (some x0_12.toList.isEmpty) else (some false)) = some r := by rw [if_pos rfl] at H; exact H
                            clear H
                            have H := H1
                            clear H1
                            by_cases c23 : x3_12 > 0
                            · rw [if_pos c23] at H
                              have c23b0 : decide (0 < x3_12) = true := decide_eq_true c23
                              clear c23
                              obtain rfl := Option.some.inj H
                              go_wp2_with (first | ((with_reducible refine wp_scope_fwd (rest := ?rr) 0 ?hfl ?_); (case hfl => rfl)) | ((with_reducible apply wp_label)) | ((with_reducible apply wp_goto)) | ((with_reducible apply ExitFwd_go)))
                              go_ret
                              exact ⟨by first | rfl | (simp [errW_none, errW_some] <;> rfl) | (simp [*, errW_none, errW_some] <;> rfl), by repeat (first | (with_reducible first | exact HB.out | apply below_alloc | apply pw_below_drewN | apply below_drew1) | exact HB.out)⟩
                            · rw [if_neg c23] at H
                              have c23b0 : decide (0 < x3_12) = false := decide_eq_false c23
                              clear c23
                              obtain rfl := Option.some.inj H
                              go_wp2_with (first | ((with_reducible refine wp_scope_fwd (rest := ?rr) 0 ?hfl ?_); (case hfl => rfl)) | ((with_reducible apply wp_label)) | ((with_reducible apply wp_goto)) | ((with_reducible apply ExitFwd_go)))
                              go_ret
                              exact ⟨by first | rfl | (simp [errW_none, errW_some] <;> rfl) | (simp [*, errW_none, errW_some] <;> rfl), by repeat (first | (with_reducible first | exact HB.out | apply below_alloc | apply pw_below_drewN | apply below_drew1) | exact HB.out)⟩
                          · replace c22 := Bool.eq_false_iff.mpr c22
                            subst c22
                            have H1 : (if 0 < (x0_12.size : Int) then (if (bt x0_12 0) = 101 then (resolve_float.j2 kj19 x0_12 false) else (resolve_float.j2 kj19 x0_12 ((bt x0_12 0) != 69))) else (none)) = some r := by rw [if_neg (show ¬ (false = true) by decide)] at H; exact H
                            clear H
                            have H := H1
                            clear H1
                            have HC24 := Aside0.mk H
                            clear H
                            go_upto_region 21 with (first | ((with_reducible refine wp_scope_fwd (rest := ?rr) 0 ?hfl ?_); (case hfl => rfl)) | ((with_reducible apply wp_label)) | ((with_reducible apply wp_goto)) | ((with_reducible apply ExitFwd_go)))
                            (try simp only [Act.put, List.setIfInBounds_toArray, List.set_cons_zero, List.set_cons_succ])
                            go_cut [54] (fun v54 wc => ∃ (kq : Nat) (x54_23 : Bool), v54 = .bool x54_23 ∧ Aside0 (resolve_float.j2 kq x0_12 x54_23 = some r) ∧ Aside0 (kq ≤ kj19) ∧ Aside0 (Below w.heap.size w wc))
                            case first =>
                              have H := HC24.out
                              clear HC24
                              by_cases c25 : 0 < (x0_12.size : Int)
                              · rw [if_pos c25] at H
                                have c25b0 : decide (0 < (x0_12.size : Int)) = true := decide_eq_true c25
                                have c25b1 : decide (0 < x0_12.size) = true := decide_eq_true (by omega)
                                clear c25
                                (first | rw [c25b0] | (simp only [i64_w, i32_w]; rw [c25b0]) | skip)
                                by_cases c27 : (bt x0_12 0) = 101
                                · rw [if_pos c27] at H
                                  have c27b0 : ((bt x0_12 0) == 101) = true := beq_iff_eq.mpr c27
                                  have c27b1 : ((bt x0_12 0) != 101) = false := bne_eq_false_iff_eq.mpr c27
                                  clear c27
                                  have H' := Aside0.mk H
                                  clear H
                                  have p26 : 0 ≤ (0 : Int) := (by omega)
                                  have q26 : 0 < x0_12.size := (by have : (0 : Int) < (x0_12.size : Int) := of_decide_eq_true (by first | (with_reducible assumption) | assumption); omega)
                                  have hx26 : ∀ h : 0 < x0_12.size, ((x0_12[0]'h).toNat : Int) = bt x0_12 0 := bt_at x0_12 0
                                  clear p26
                                  have qi26 : (0 < (x0_12.size : Int)) = True := eq_true (of_decide_eq_true (by first | (with_reducible assumption) | assumption))
                                  replace q26 := eq_true q26
                                  go_wp2_with (first | ((with_reducible refine wp_scope_fwd (rest := ?rr) 0 ?hfl ?_); (case hfl => rfl)) | ((with_reducible apply wp_label)) | ((with_reducible apply wp_goto)) | ((with_reducible apply ExitFwd_go)))
                                  go_meet
                                  case rel => exact ⟨_, (false), (by first | rfl | (simp; done) | (simp [*]; done)), H', ⟨by have := HJ12.out; have := HJ19.out; first | omega | exact Nat.le_refl _⟩, ⟨by repeat (first | (with_reducible first | exact HB.out | apply below_alloc | apply pw_below_drewN | apply below_drew1) | exact HB.out)⟩⟩
                                · rw [if_neg c27] at H
                                  have c27b0 : ((bt x0_12 0) == 101) = false := beq_eq_false_iff_ne.mpr c27
                                  have c27b1 : ((bt x0_12 0) != 101) = true := bne_iff_ne.mpr c27
                                  have H' := Aside0.mk H
                                  clear H
                                  have p26 : 0 ≤ (0 : Int) := (by omega)
                                  have q26 : 0 < x0_12.size := (by have : (0 : Int) < (x0_12.size : Int) := of_decide_eq_true (by first | (with_reducible assumption) | assumption); omega)
                                  have hx26 : ∀ h : 0 < x0_12.size, ((x0_12[0]'h).toNat : Int) = bt x0_12 0 := bt_at x0_12 0
                                  clear p26
                                  have qi26 : (0 < (x0_12.size : Int)) = True := eq_true (of_decide_eq_true (by first | (with_reducible assumption) | assumption))
                                  replace q26 := eq_true q26
                                  have p28 : 0 ≤ (0 : Int) := (by omega)
                                  have q28 : 0 < x0_12.size := (by have : (0 : Int) < (x0_12.size : Int) := of_decide_eq_true (by first | (with_reducible assumption) | assumption); omega)
                                  have hx28 : ∀ h : 0 < x0_12.size, ((x0_12[0]'h).toNat : Int) = bt x0_12 0 := bt_at x0_12 0
                                  clear p28
                                  have qi28 : (0 < (x0_12.size : Int)) = True := eq_true (of_decide_eq_true (by first | (with_reducible assumption) | assumption))
                                  replace q28 := eq_true q28
                                  go_wp2_with (first | ((with_reducible refine wp_scope_fwd (rest := ?rr) 0 ?hfl ?_); (case hfl => rfl)) | ((with_reducible apply wp_label)) | ((with_reducible apply wp_goto)) | ((with_reducible apply ExitFwd_go)))
                                  go_meet
                                  case rel => exact ⟨_, (((bt x0_12 0) != 69)), (by first | rfl | (simp; done) | (simp [*]; done)), H', ⟨by have := HJ12.out; have := HJ19.out; first | omega | exact Nat.le_refl _⟩, ⟨by repeat (first | (with_reducible first | exact HB.out | apply below_alloc | apply pw_below_drewN | apply below_drew1) | exact HB.out)⟩⟩
                              · rw [if_neg c25] at H
                                exact absurd H (by simp)
                            case rest =>
                              clear HC24
                              try clear c1
                              try clear c2
                              try clear c2b0
                              try clear c2b1
                              try clear p2
                              try clear q2
                              try clear hx2
                              try clear qi2
                              try clear c3
                              try clear c3b0
                              try clear c3b1
                              try clear c4
                              try clear c4b0
                              try clear c4b1
                              try clear c5
                              try clear c6
                              try clear c6b0
                              try clear c6b1
                              try clear p6
                              try clear c7
                              try clear c7b0
                              try clear c7b1
                              try clear c8
                              try clear c8b0
                              try clear c8b1
                              try clear c10
                              try clear c10b0
                              try clear c10b1
                              try clear c11
                              try clear c11b0
                              try clear c11b1
                              try clear c15
                              try clear c17
                              try clear c17b0
                              try clear c17b1
                              try clear c18
                              try clear c18b0
                              try clear c18b1
                              try clear c21
                              try clear c21b0
                              try clear c21b1
                              try clear c22
                              try clear c23
                              try clear c23b0
                              try clear c25
                              try clear c25b0
                              try clear c25b1
                              try clear p26
                              try clear q26
                              try clear hx26
                              try clear qi26
                              try clear c27
                              try clear c27b0
                              try clear c27b1
                              try clear p28
                              try clear q28
                              try clear hx28
                              try clear qi28
                              try clear p2
                              try clear p26
                              try clear p28
                              try clear p6
                              try clear q26
                              try clear q28
                              obtain ⟨kq, x54_23, rfl, HA, HJ23, HB⟩ := hcut
                              cases kq with
                              | zero => exact absurd HA.out (by simp [resolve_float.j2])
                              | succ kj23 =>
                                have H := HA.out
                                clear HA
                                simp only [resolve_float.j2] at H
                                by_cases c29 : x54_23 = true
                                · subst c29
                                  have H1 : (some false) = some r := by rw [if_pos rfl] at H; exact H
                                  clear H
                                  have H := H1
                                  clear H1
                                  obtain rfl := Option.some.inj H
                                  go_wp2_with (first | ((with_reducible refine wp_scope_fwd (rest := ?rr) 0 ?hfl ?_); (case hfl => rfl)) | ((with_reducible apply wp_label)) | ((with_reducible apply wp_goto)) | ((with_reducible apply ExitFwd_go)))
                                  go_ret
                                  exact ⟨by first | rfl | (simp [errW_none, errW_some] <;> rfl) | (simp [*, errW_none, errW_some] <;> rfl), by repeat (first | (with_reducible first | exact HB.out | apply below_alloc | apply pw_below_drewN | apply below_drew1) | exact HB.out)⟩
                                · replace c29 := Bool.eq_false_iff.mpr c29
                                  subst c29
                                  have H1 : (if 1 ≤ (x0_12.size : Int) then ((resolve_sign.f (x0_12.extract 1 x0_12.size)).bind fun bt229 => ((resolve_digits.f kj23 bt229.1).bind fun t231 => (if 0 ≤ t231 then (if t231 ≤ (bt229.1.size : Int) then (if t231 > 0 then (some (((bt229.1.extract (t231 : Int).toNat bt229.1.size).toList).isEmpty)) else (some false)) else (none)) else (none)))) else (none)) = some r := by rw [if_neg (show ¬ (false = true) by decide)] at H; exact H
                                  clear H
                                  have H := H1
                                  clear H1
                                  by_cases c30 : 1 ≤ (x0_12.size : Int)
                                  · rw [if_pos c30] at H
                                    have c30b0 := eq_true c30
                                    have c30b1 : decide (1 ≤ (x0_12.size : Int)) = true := decide_eq_true c30
                                    clear c30
                                    replace H := Option.bind_eq_some_iff.mp H
                                    obtain ⟨⟨t229, t230⟩, A310, H⟩ := H
                                    replace H : ((resolve_digits.f kj23 t229).bind fun t231 => (if 0 ≤ t231 then (if t231 ≤ (t229.size : Int) then (if t231 > 0 then (some (((t229.extract (t231 : Int).toNat t229.size).toList).isEmpty)) else (some false)) else (none)) else (none))) = some r := H
                                    have A31 := Aside0.mk A310
                                    clear A310
                                    replace H := Option.bind_eq_some_iff.mp H
                                    obtain ⟨t231, A320, H⟩ := H
                                    replace H : (if 0 ≤ t231 then (if t231 ≤ (t229.size : Int) then (if t231 > 0 then (some (((t229.extract (t231 : Int).toNat t229.size).toList).isEmpty)) else (some false)) else (none)) else (none)) = some r := H
                                    have A32 := Aside0.mk A320
                                    clear A320
                                    by_cases c33 : 0 ≤ t231
                                    · rw [if_pos c33] at H
                                      have c33b0 := eq_true c33
                                      have c33b1 : decide (0 ≤ t231) = true := decide_eq_true c33
                                      clear c33
                                      by_cases c34 : t231 ≤ (t229.size : Int)
                                      · rw [if_pos c34] at H
                                        have c34b0 := eq_true c34
                                        have c34b1 : decide (t231 ≤ (t229.size : Int)) = true := decide_eq_true c34
                                        clear c34
                                        by_cases c35 : t231 > 0
                                        · rw [if_pos c35] at H
                                          have c35b0 : decide (0 < t231) = true := decide_eq_true c35
                                          clear c35
                                          obtain rfl := Option.some.inj H
                                          go_wp2_with (first | ((with_reducible refine wp_scope_fwd (rest := ?rr) 0 ?hfl ?_); (case hfl => rfl)) | ((with_reducible apply wp_label)) | ((with_reducible apply wp_goto)) | ((with_reducible apply ExitFwd_go)) | ((with_reducible refine gate_callee (f := 41) rfl ?_); refine goesL_ (some 58) rfl rfl Try.func41 (by kernel_rfl) rfl #[.string (x0_12.extract 1 x0_12.size)] rfl (by (try simp only [List.map_toArray, List.map_cons, List.map_nil]); first | done | rfl | (simp only [List.length_drop, List.length_take]; rfl) | (simp only [ByteArray.size_extract, Nat.min_self]; done) | (simp only [ByteArray.size_extract, Nat.min_self]; rfl)) ?_; (with_reducible refine (resolve_sign.calls (x0_12.extract 1 x0_12.size) t229 t230 _ A31.out).mono ?_); rintro e w' ⟨rfl, ⟨nd, rfl⟩⟩; refine ⟨_, rfl, ?_⟩) | ((with_reducible refine gate_callee (f := 54) rfl ?_); refine goesL_ (some 62) rfl rfl Try.func54 (by kernel_rfl) rfl #[.string t229] rfl (by (try simp only [List.map_toArray, List.map_cons, List.map_nil]); first | done | rfl | (simp only [List.length_drop, List.length_take]; rfl) | (simp only [ByteArray.size_extract, Nat.min_self]; done) | (simp only [ByteArray.size_extract, Nat.min_self]; rfl)) ?_; (with_reducible refine (resolve_digits.calls kj23 t229 t231 _ A32.out).mono ?_); rintro e w36 ⟨rfl, hb⟩; refine ⟨_, rfl, ?_⟩; have n0_ := Aside0.mk (below_step (by repeat (first | (with_reducible first | exact HB.out | apply below_alloc | apply pw_below_drewN | apply below_drew1) | exact HB.out)) hb); clear HB; have HB := n0_; clear n0_; (try clear hb); (try clear hb2); (try clear hk); (try clear hi)))
                                          go_ret
                                          exact ⟨by first | rfl | (simp [errW_none, errW_some] <;> rfl) | (simp [*, errW_none, errW_some] <;> rfl), by repeat (first | (with_reducible first | exact HB.out | apply below_alloc | apply pw_below_drewN | apply below_drew1) | exact HB.out)⟩
                                        · rw [if_neg c35] at H
                                          have c35b0 : decide (0 < t231) = false := decide_eq_false c35
                                          clear c35
                                          obtain rfl := Option.some.inj H
                                          go_wp2_with (first | ((with_reducible refine wp_scope_fwd (rest := ?rr) 0 ?hfl ?_); (case hfl => rfl)) | ((with_reducible apply wp_label)) | ((with_reducible apply wp_goto)) | ((with_reducible apply ExitFwd_go)) | ((with_reducible refine gate_callee (f := 41) rfl ?_); refine goesL_ (some 58) rfl rfl Try.func41 (by kernel_rfl) rfl #[.string (x0_12.extract 1 x0_12.size)] rfl (by (try simp only [List.map_toArray, List.map_cons, List.map_nil]); first | done | rfl | (simp only [List.length_drop, List.length_take]; rfl) | (simp only [ByteArray.size_extract, Nat.min_self]; done) | (simp only [ByteArray.size_extract, Nat.min_self]; rfl)) ?_; (with_reducible refine (resolve_sign.calls (x0_12.extract 1 x0_12.size) t229 t230 _ A31.out).mono ?_); rintro e w' ⟨rfl, ⟨nd, rfl⟩⟩; refine ⟨_, rfl, ?_⟩) | ((with_reducible refine gate_callee (f := 54) rfl ?_); refine goesL_ (some 62) rfl rfl Try.func54 (by kernel_rfl) rfl #[.string t229] rfl (by (try simp only [List.map_toArray, List.map_cons, List.map_nil]); first | done | rfl | (simp only [List.length_drop, List.length_take]; rfl) | (simp only [ByteArray.size_extract, Nat.min_self]; done) | (simp only [ByteArray.size_extract, Nat.min_self]; rfl)) ?_; (with_reducible refine (resolve_digits.calls kj23 t229 t231 _ A32.out).mono ?_); rintro e w37 ⟨rfl, hb⟩; refine ⟨_, rfl, ?_⟩; have n0_ := Aside0.mk (below_step (by repeat (first | (with_reducible first | exact HB.out | apply below_alloc | apply pw_below_drewN | apply below_drew1) | exact HB.out)) hb); clear HB; have HB := n0_; clear n0_; (try clear hb); (try clear hb2); (try clear hk); (try clear hi)))
                                          go_ret
                                          exact ⟨by first | rfl | (simp [errW_none, errW_some] <;> rfl) | (simp [*, errW_none, errW_some] <;> rfl), by repeat (first | (with_reducible first | exact HB.out | apply below_alloc | apply pw_below_drewN | apply below_drew1) | exact HB.out)⟩
                                      · rw [if_neg c34] at H
                                        exact absurd H (by simp)
                                    · rw [if_neg c33] at H
                                      exact absurd H (by simp)
                                  · rw [if_neg c30] at H
                                    exact absurd H (by simp)
                · rw [if_neg c11] at H
                  exact absurd H (by simp)
              · rw [if_neg c10] at H
                exact absurd H (by simp)

/-! ### resolve_Kind: function 26 -/
def resolve_Kind.j0 : Nat → ByteArray → ByteArray → Bool → Option (Int)
  | 0, _, _, _ => none
  | k + 1, x0, x5, x6 => if x6 = true then (some 1) else (if x5.toList = ([116, 114, 117, 101] : List UInt8) then (some 2) else (if x5.toList = ([84, 114, 117, 101] : List UInt8) then (some 2) else (if x5.toList = ([84, 82, 85, 69] : List UInt8) then (some 2) else (if x5.toList = ([102, 97, 108, 115, 101] : List UInt8) then (some 2) else (if x5.toList = ([70, 97, 108, 115, 101] : List UInt8) then (some 2) else (if x5.toList = ([70, 65, 76, 83, 69] : List UInt8) then (some 2) else ((resolve_Int.f k x0).bind fun bt232 => (if bt232.2 = true then (some 3) else ((resolve_float.f k x0).bind fun t234 => (if t234 = true then (some 4) else (some 5)))))))))))
def resolve_Kind.f (k : Nat) (a0 : ByteArray) : Option (Int) := if a0.toList = ([] : List UInt8) then (resolve_Kind.j0 k a0 a0 a0.toList.isEmpty) else (if a0.toList = ([126] : List UInt8) then (resolve_Kind.j0 k a0 a0 (a0.toList == ([126] : List UInt8))) else (if a0.toList = ([110, 117, 108, 108] : List UInt8) then (resolve_Kind.j0 k a0 a0 (a0.toList == ([110, 117, 108, 108] : List UInt8))) else (if a0.toList = ([78, 117, 108, 108] : List UInt8) then (resolve_Kind.j0 k a0 a0 (a0.toList == ([78, 117, 108, 108] : List UInt8))) else (resolve_Kind.j0 k a0 a0 (a0.toList == ([78, 85, 76, 76] : List UInt8))))))
theorem resolve_Kind.mono_l : ∀ k, (∀ y0 y1 y2, LeO (resolve_Kind.j0 k y0 y1 y2) (resolve_Kind.j0 (k + 1) y0 y1 y2))
  | 0 => fun _ _ _ r h => by simp [resolve_Kind.j0] at h
  | k + 1 => by
    have ih0 := resolve_Kind.mono_l k
    · intro y0 y1 y2
      unfold resolve_Kind.j0
      repeat' first
      | (with_reducible exact ih0 _ _ _)
      | (with_reducible exact resolve_Int.mono _ _)
      | (with_reducible exact resolve_float.mono _ _)
      | (with_reducible exact LeO.refl _)
      | (with_reducible exact LeO.none _)
      | (with_reducible refine LeO.ite ?_ ?_)
      | (with_reducible refine LeO.bind ?_ (fun _ => ?_))
      | exact ih0 _ _ _
      | exact resolve_Int.mono _ _
      | exact resolve_float.mono _ _
      | exact LeO.none _
      | refine LeO.ite ?_ ?_
      | refine LeO.bind ?_ (fun _ => ?_)
theorem resolve_Kind.mono : ∀ a0 k, LeO (resolve_Kind.f k a0) (resolve_Kind.f (k + 1) a0) := by
  intro a0 k
  have ih0 := resolve_Kind.mono_l k
  unfold resolve_Kind.f
  repeat' first
      | (with_reducible exact ih0 _ _ _)
      | (with_reducible exact resolve_Int.mono _ _)
      | (with_reducible exact resolve_float.mono _ _)
      | (with_reducible exact LeO.refl _)
      | (with_reducible exact LeO.none _)
      | (with_reducible refine LeO.ite ?_ ?_)
      | (with_reducible refine LeO.bind ?_ (fun _ => ?_))
      | exact ih0 _ _ _
      | exact resolve_Int.mono _ _
      | exact resolve_float.mono _ _
      | exact LeO.none _
      | refine LeO.ite ?_ ?_
      | refine LeO.bind ?_ (fun _ => ?_)
set_option maxHeartbeats 8000000 in
set_option maxRecDepth 100000 in
theorem resolve_Kind.calls (k : Nat) (a0 : ByteArray) (r : Int) (w : World) (h : resolve_Kind.f k a0 = some r) :
    Calls Try.prog 26 #[.string a0] w fun e w' => e = .returned (.int .i64 r) ∧ Below w.heap.size w w' := by
  have HB := Aside0.mk (Below.refl w.heap.size w)
  have H : (if a0.toList = ([] : List UInt8) then (resolve_Kind.j0 k a0 a0 a0.toList.isEmpty) else (if a0.toList = ([126] : List UInt8) then (resolve_Kind.j0 k a0 a0 (a0.toList == ([126] : List UInt8))) else (if a0.toList = ([110, 117, 108, 108] : List UInt8) then (resolve_Kind.j0 k a0 a0 (a0.toList == ([110, 117, 108, 108] : List UInt8))) else (if a0.toList = ([78, 117, 108, 108] : List UInt8) then (resolve_Kind.j0 k a0 a0 (a0.toList == ([78, 117, 108, 108] : List UInt8))) else (resolve_Kind.j0 k a0 a0 (a0.toList == ([78, 85, 76, 76] : List UInt8))))))) = some r := h
  clear h
  have HC2 := Aside0.mk H
  clear H
  go_enter Try.func26, Try.ntmps26
  go_upto_if 6 with (fail)
  go_cut [6] (fun v6 wc => ∃ (kq : Nat) (x6_1 : Bool), v6 = .bool x6_1 ∧ Aside0 (resolve_Kind.j0 kq a0 a0 x6_1 = some r) ∧ Aside0 (kq ≤ k) ∧ Aside0 (Below w.heap.size w wc))
  case first =>
    have H := HC2.out
    clear HC2
    by_cases c3 : a0.toList = ([] : List UInt8)
    · rw [if_pos c3] at H
      have c3b0 : (a0.toList == ([] : List UInt8)) = true := beq_iff_eq.mpr c3
      have c3b1 : (a0.toList != ([] : List UInt8)) = false := bne_eq_false_iff_eq.mpr c3
      (try (have c3b2 : a0.toList.isEmpty = true := by simpa using c3))
      clear c3
      (first | rw [c3b0] | rw [c3b2] | (simp only [i64_w, i32_w]; rw [c3b0]) | skip)
      have H' := Aside0.mk H
      clear H
      go_wp2
      go_meet
      case rel => exact ⟨_, (a0.toList.isEmpty), (by first | rfl | (simp; done) | (simp [*]; done)), H', ⟨by first | omega | exact Nat.le_refl _⟩, ⟨by repeat (first | (with_reducible first | exact HB.out | apply below_alloc | apply pw_below_drewN | apply below_drew1) | exact HB.out)⟩⟩
    · rw [if_neg c3] at H
      have c3b0 : (a0.toList == ([] : List UInt8)) = false := beq_eq_false_iff_ne.mpr c3
      have c3b1 : (a0.toList != ([] : List UInt8)) = true := bne_iff_ne.mpr c3
      (try (have c3b2 : a0.toList.isEmpty = false := by simpa using c3))
      (first | rw [c3b0] | rw [c3b2] | (simp only [i64_w, i32_w]; rw [c3b0]) | skip)
      by_cases c4 : a0.toList = ([126] : List UInt8)
      · rw [if_pos c4] at H
        have c4b0 : (a0.toList == ([126] : List UInt8)) = true := beq_iff_eq.mpr c4
        have c4b1 : (a0.toList != ([126] : List UInt8)) = false := bne_eq_false_iff_eq.mpr c4
        clear c4
        have H' := Aside0.mk H
        clear H
        go_wp2
        go_meet
        case rel => exact ⟨_, ((a0.toList == ([126] : List UInt8))), (by first | rfl | (simp; done) | (simp [*]; done)), H', ⟨by first | omega | exact Nat.le_refl _⟩, ⟨by repeat (first | (with_reducible first | exact HB.out | apply below_alloc | apply pw_below_drewN | apply below_drew1) | exact HB.out)⟩⟩
      · rw [if_neg c4] at H
        have c4b0 : (a0.toList == ([126] : List UInt8)) = false := beq_eq_false_iff_ne.mpr c4
        have c4b1 : (a0.toList != ([126] : List UInt8)) = true := bne_iff_ne.mpr c4
        by_cases c5 : a0.toList = ([110, 117, 108, 108] : List UInt8)
        · rw [if_pos c5] at H
          have c5b0 : (a0.toList == ([110, 117, 108, 108] : List UInt8)) = true := beq_iff_eq.mpr c5
          have c5b1 : (a0.toList != ([110, 117, 108, 108] : List UInt8)) = false := bne_eq_false_iff_eq.mpr c5
          clear c5
          have H' := Aside0.mk H
          clear H
          go_wp2
          go_meet
          case rel => exact ⟨_, ((a0.toList == ([110, 117, 108, 108] : List UInt8))), (by first | rfl | (simp; done) | (simp [*]; done)), H', ⟨by first | omega | exact Nat.le_refl _⟩, ⟨by repeat (first | (with_reducible first | exact HB.out | apply below_alloc | apply pw_below_drewN | apply below_drew1) | exact HB.out)⟩⟩
        · rw [if_neg c5] at H
          have c5b0 : (a0.toList == ([110, 117, 108, 108] : List UInt8)) = false := beq_eq_false_iff_ne.mpr c5
          have c5b1 : (a0.toList != ([110, 117, 108, 108] : List UInt8)) = true := bne_iff_ne.mpr c5
          by_cases c6 : a0.toList = ([78, 117, 108, 108] : List UInt8)
          · rw [if_pos c6] at H
            have c6b0 : (a0.toList == ([78, 117, 108, 108] : List UInt8)) = true := beq_iff_eq.mpr c6
            have c6b1 : (a0.toList != ([78, 117, 108, 108] : List UInt8)) = false := bne_eq_false_iff_eq.mpr c6
            clear c6
            have H' := Aside0.mk H
            clear H
            go_wp2
            go_meet
            case rel => exact ⟨_, ((a0.toList == ([78, 117, 108, 108] : List UInt8))), (by first | rfl | (simp; done) | (simp [*]; done)), H', ⟨by first | omega | exact Nat.le_refl _⟩, ⟨by repeat (first | (with_reducible first | exact HB.out | apply below_alloc | apply pw_below_drewN | apply below_drew1) | exact HB.out)⟩⟩
          · rw [if_neg c6] at H
            have c6b0 : (a0.toList == ([78, 117, 108, 108] : List UInt8)) = false := beq_eq_false_iff_ne.mpr c6
            have c6b1 : (a0.toList != ([78, 117, 108, 108] : List UInt8)) = true := bne_iff_ne.mpr c6
            have H' := Aside0.mk H
            clear H
            go_wp2
            go_meet
            case rel => exact ⟨_, ((a0.toList == ([78, 85, 76, 76] : List UInt8))), (by first | rfl | (simp; done) | (simp [*]; done)), H', ⟨by first | omega | exact Nat.le_refl _⟩, ⟨by repeat (first | (with_reducible first | exact HB.out | apply below_alloc | apply pw_below_drewN | apply below_drew1) | exact HB.out)⟩⟩
  case rest =>
    clear HC2
    try clear c2
    try clear p2
    try clear c3
    try clear c3b0
    try clear c3b1
    try clear c3b2
    try clear c4
    try clear c4b0
    try clear c4b1
    try clear c5
    try clear c5b0
    try clear c5b1
    try clear c6
    try clear c6b0
    try clear c6b1
    obtain ⟨kq, x6_1, rfl, HA, HJ1, HB⟩ := hcut
    cases kq with
    | zero => exact absurd HA.out (by simp [resolve_Kind.j0])
    | succ kj1 =>
      have H := HA.out
      clear HA
      simp only [resolve_Kind.j0] at H
      by_cases c7 : x6_1 = true
      · subst c7
        have H1 : (some 1) = some r := by rw [if_pos rfl] at H; exact H
        clear H
        have H := H1
        clear H1
        obtain rfl := Option.some.inj H
        go_wp2
        go_ret
        exact ⟨by first | rfl | (simp [errW_none, errW_some] <;> rfl) | (simp [*, errW_none, errW_some] <;> rfl), by repeat (first | (with_reducible first | exact HB.out | apply below_alloc | apply pw_below_drewN | apply below_drew1) | exact HB.out)⟩
      · replace c7 := Bool.eq_false_iff.mpr c7
        subst c7
        have H1 : (if a0.toList = ([116, 114, 117, 101] : List UInt8) then (some 2) else (if a0.toList = ([84, 114, 117, 101] : List UInt8) then (some 2) else (if a0.toList = ([84, 82, 85, 69] : List UInt8) then (some 2) else (if a0.toList = ([102, 97, 108, 115, 101] : List UInt8) then (some 2) else (if a0.toList = ([70, 97, 108, 115, 101] : List UInt8) then (some 2) else (if a0.toList = ([70, 65, 76, 83, 69] : List UInt8) then (some 2) else ((resolve_Int.f kj1 a0).bind fun bt232 => (if bt232.2 = true then (some 3) else ((resolve_float.f kj1 a0).bind fun t234 => (if t234 = true then (some 4) else (some 5))))))))))) = some r := by rw [if_neg (show ¬ (false = true) by decide)] at H; exact H
        clear H
        have H := H1
        clear H1
        by_cases c8 : a0.toList = ([116, 114, 117, 101] : List UInt8)
        · rw [if_pos c8] at H
          have c8b0 : (a0.toList == ([116, 114, 117, 101] : List UInt8)) = true := beq_iff_eq.mpr c8
          have c8b1 : (a0.toList != ([116, 114, 117, 101] : List UInt8)) = false := bne_eq_false_iff_eq.mpr c8
          clear c8
          obtain rfl := Option.some.inj H
          go_wp2
          go_ret
          exact ⟨by first | rfl | (simp [errW_none, errW_some] <;> rfl) | (simp [*, errW_none, errW_some] <;> rfl), by repeat (first | (with_reducible first | exact HB.out | apply below_alloc | apply pw_below_drewN | apply below_drew1) | exact HB.out)⟩
        · rw [if_neg c8] at H
          have c8b0 : (a0.toList == ([116, 114, 117, 101] : List UInt8)) = false := beq_eq_false_iff_ne.mpr c8
          have c8b1 : (a0.toList != ([116, 114, 117, 101] : List UInt8)) = true := bne_iff_ne.mpr c8
          by_cases c9 : a0.toList = ([84, 114, 117, 101] : List UInt8)
          · rw [if_pos c9] at H
            have c9b0 : (a0.toList == ([84, 114, 117, 101] : List UInt8)) = true := beq_iff_eq.mpr c9
            have c9b1 : (a0.toList != ([84, 114, 117, 101] : List UInt8)) = false := bne_eq_false_iff_eq.mpr c9
            clear c9
            obtain rfl := Option.some.inj H
            go_wp2
            go_ret
            exact ⟨by first | rfl | (simp [errW_none, errW_some] <;> rfl) | (simp [*, errW_none, errW_some] <;> rfl), by repeat (first | (with_reducible first | exact HB.out | apply below_alloc | apply pw_below_drewN | apply below_drew1) | exact HB.out)⟩
          · rw [if_neg c9] at H
            have c9b0 : (a0.toList == ([84, 114, 117, 101] : List UInt8)) = false := beq_eq_false_iff_ne.mpr c9
            have c9b1 : (a0.toList != ([84, 114, 117, 101] : List UInt8)) = true := bne_iff_ne.mpr c9
            by_cases c10 : a0.toList = ([84, 82, 85, 69] : List UInt8)
            · rw [if_pos c10] at H
              have c10b0 : (a0.toList == ([84, 82, 85, 69] : List UInt8)) = true := beq_iff_eq.mpr c10
              have c10b1 : (a0.toList != ([84, 82, 85, 69] : List UInt8)) = false := bne_eq_false_iff_eq.mpr c10
              clear c10
              obtain rfl := Option.some.inj H
              go_wp2
              go_ret
              exact ⟨by first | rfl | (simp [errW_none, errW_some] <;> rfl) | (simp [*, errW_none, errW_some] <;> rfl), by repeat (first | (with_reducible first | exact HB.out | apply below_alloc | apply pw_below_drewN | apply below_drew1) | exact HB.out)⟩
            · rw [if_neg c10] at H
              have c10b0 : (a0.toList == ([84, 82, 85, 69] : List UInt8)) = false := beq_eq_false_iff_ne.mpr c10
              have c10b1 : (a0.toList != ([84, 82, 85, 69] : List UInt8)) = true := bne_iff_ne.mpr c10
              by_cases c11 : a0.toList = ([102, 97, 108, 115, 101] : List UInt8)
              · rw [if_pos c11] at H
                have c11b0 : (a0.toList == ([102, 97, 108, 115, 101] : List UInt8)) = true := beq_iff_eq.mpr c11
                have c11b1 : (a0.toList != ([102, 97, 108, 115, 101] : List UInt8)) = false := bne_eq_false_iff_eq.mpr c11
                clear c11
                obtain rfl := Option.some.inj H
                go_wp2
                go_ret
                exact ⟨by first | rfl | (simp [errW_none, errW_some] <;> rfl) | (simp [*, errW_none, errW_some] <;> rfl), by repeat (first | (with_reducible first | exact HB.out | apply below_alloc | apply pw_below_drewN | apply below_drew1) | exact HB.out)⟩
              · rw [if_neg c11] at H
                have c11b0 : (a0.toList == ([102, 97, 108, 115, 101] : List UInt8)) = false := beq_eq_false_iff_ne.mpr c11
                have c11b1 : (a0.toList != ([102, 97, 108, 115, 101] : List UInt8)) = true := bne_iff_ne.mpr c11
                by_cases c12 : a0.toList = ([70, 97, 108, 115, 101] : List UInt8)
                · rw [if_pos c12] at H
                  have c12b0 : (a0.toList == ([70, 97, 108, 115, 101] : List UInt8)) = true := beq_iff_eq.mpr c12
                  have c12b1 : (a0.toList != ([70, 97, 108, 115, 101] : List UInt8)) = false := bne_eq_false_iff_eq.mpr c12
                  clear c12
                  obtain rfl := Option.some.inj H
                  go_wp2
                  go_ret
                  exact ⟨by first | rfl | (simp [errW_none, errW_some] <;> rfl) | (simp [*, errW_none, errW_some] <;> rfl), by repeat (first | (with_reducible first | exact HB.out | apply below_alloc | apply pw_below_drewN | apply below_drew1) | exact HB.out)⟩
                · rw [if_neg c12] at H
                  have c12b0 : (a0.toList == ([70, 97, 108, 115, 101] : List UInt8)) = false := beq_eq_false_iff_ne.mpr c12
                  have c12b1 : (a0.toList != ([70, 97, 108, 115, 101] : List UInt8)) = true := bne_iff_ne.mpr c12
                  by_cases c13 : a0.toList = ([70, 65, 76, 83, 69] : List UInt8)
                  · rw [if_pos c13] at H
                    have c13b0 : (a0.toList == ([70, 65, 76, 83, 69] : List UInt8)) = true := beq_iff_eq.mpr c13
                    have c13b1 : (a0.toList != ([70, 65, 76, 83, 69] : List UInt8)) = false := bne_eq_false_iff_eq.mpr c13
                    clear c13
                    obtain rfl := Option.some.inj H
                    go_wp2
                    go_ret
                    exact ⟨by first | rfl | (simp [errW_none, errW_some] <;> rfl) | (simp [*, errW_none, errW_some] <;> rfl), by repeat (first | (with_reducible first | exact HB.out | apply below_alloc | apply pw_below_drewN | apply below_drew1) | exact HB.out)⟩
                  · rw [if_neg c13] at H
                    have c13b0 : (a0.toList == ([70, 65, 76, 83, 69] : List UInt8)) = false := beq_eq_false_iff_ne.mpr c13
                    have c13b1 : (a0.toList != ([70, 65, 76, 83, 69] : List UInt8)) = true := bne_iff_ne.mpr c13
                    replace H := Option.bind_eq_some_iff.mp H
                    obtain ⟨⟨t232, t233⟩, A140, H⟩ := H
                    replace H : (if t233 = true then (some 3) else ((resolve_float.f kj1 a0).bind fun t234 => (if t234 = true then (some 4) else (some 5)))) = some r := H
                    have A14 := Aside0.mk A140
                    clear A140
                    by_cases c15 : t233 = true
                    · subst c15
                      have H1 : (some 3) = some r := by rw [if_pos rfl] at H; exact H
                      clear H
                      have H := H1
                      clear H1
                      obtain rfl := Option.some.inj H
                      go_wp2_with (first | ((with_reducible refine gate_callee (f := 24) rfl ?_); refine goesL_ (some 21) rfl rfl Try.func24 (by kernel_rfl) rfl #[.string a0] rfl (by (try simp only [List.map_toArray, List.map_cons, List.map_nil]); first | done | rfl | (simp only [List.length_drop, List.length_take]; rfl) | (simp only [ByteArray.size_extract, Nat.min_self]; done) | (simp only [ByteArray.size_extract, Nat.min_self]; rfl)) ?_; (with_reducible refine (resolve_Int.calls kj1 a0 t232 true _ A14.out).mono ?_); rintro e w16 ⟨rfl, hb⟩; refine ⟨_, rfl, ?_⟩; have n0_ := Aside0.mk (below_step (by repeat (first | (with_reducible first | exact HB.out | apply below_alloc | apply pw_below_drewN | apply below_drew1) | exact HB.out)) hb); clear HB; have HB := n0_; clear n0_; (try clear hb); (try clear hb2); (try clear hk); (try clear hi)))
                      go_ret
                      exact ⟨by first | rfl | (simp [errW_none, errW_some] <;> rfl) | (simp [*, errW_none, errW_some] <;> rfl), by repeat (first | (with_reducible first | exact HB.out | apply below_alloc | apply pw_below_drewN | apply below_drew1) | exact HB.out)⟩
                    · replace c15 := Bool.eq_false_iff.mpr c15
                      subst c15
                      have H1 : ((resolve_float.f kj1 a0).bind fun t234 => (if t234 = true then (some 4) else (some 5))) = some r := by rw [if_neg (show ¬ (false = true) by decide)] at H; exact H
                      clear H
                      have H := H1
                      clear H1
                      replace H := Option.bind_eq_some_iff.mp H
                      obtain ⟨t234, A170, H⟩ := H
                      replace H : (if t234 = true then (some 4) else (some 5)) = some r := H
                      have A17 := Aside0.mk A170
                      clear A170
                      by_cases c18 : t234 = true
                      · subst c18
                        have H1 : (some 4) = some r := by rw [if_pos rfl] at H; exact H
                        clear H
                        have H := H1
                        clear H1
                        obtain rfl := Option.some.inj H
                        go_wp2_with (first | ((with_reducible refine gate_callee (f := 24) rfl ?_); refine goesL_ (some 21) rfl rfl Try.func24 (by kernel_rfl) rfl #[.string a0] rfl (by (try simp only [List.map_toArray, List.map_cons, List.map_nil]); first | done | rfl | (simp only [List.length_drop, List.length_take]; rfl) | (simp only [ByteArray.size_extract, Nat.min_self]; done) | (simp only [ByteArray.size_extract, Nat.min_self]; rfl)) ?_; (with_reducible refine (resolve_Int.calls kj1 a0 t232 false _ A14.out).mono ?_); rintro e w19 ⟨rfl, hb⟩; refine ⟨_, rfl, ?_⟩; have n0_ := Aside0.mk (below_step (by repeat (first | (with_reducible first | exact HB.out | apply below_alloc | apply pw_below_drewN | apply below_drew1) | exact HB.out)) hb); clear HB; have HB := n0_; clear n0_; (try clear hb); (try clear hb2); (try clear hk); (try clear hi)) | ((with_reducible refine gate_callee (f := 44) rfl ?_); refine goesL_ (some 26) rfl rfl Try.func44 (by kernel_rfl) rfl #[.string a0] rfl (by (try simp only [List.map_toArray, List.map_cons, List.map_nil]); first | done | rfl | (simp only [List.length_drop, List.length_take]; rfl) | (simp only [ByteArray.size_extract, Nat.min_self]; done) | (simp only [ByteArray.size_extract, Nat.min_self]; rfl)) ?_; (with_reducible refine (resolve_float.calls kj1 a0 true _ A17.out).mono ?_); rintro e w20 ⟨rfl, hb⟩; refine ⟨_, rfl, ?_⟩; have n0_ := Aside0.mk (below_step (by repeat (first | (with_reducible first | exact HB.out | apply below_alloc | apply pw_below_drewN | apply below_drew1) | exact HB.out)) hb); clear HB; have HB := n0_; clear n0_; (try clear hb); (try clear hb2); (try clear hk); (try clear hi)))
                        go_ret
                        exact ⟨by first | rfl | (simp [errW_none, errW_some] <;> rfl) | (simp [*, errW_none, errW_some] <;> rfl), by repeat (first | (with_reducible first | exact HB.out | apply below_alloc | apply pw_below_drewN | apply below_drew1) | exact HB.out)⟩
                      · replace c18 := Bool.eq_false_iff.mpr c18
                        subst c18
                        have H1 : (some 5) = some r := by rw [if_neg (show ¬ (false = true) by decide)] at H; exact H
                        clear H
                        have H := H1
                        clear H1
                        obtain rfl := Option.some.inj H
                        go_wp2_with (first | ((with_reducible refine gate_callee (f := 24) rfl ?_); refine goesL_ (some 21) rfl rfl Try.func24 (by kernel_rfl) rfl #[.string a0] rfl (by (try simp only [List.map_toArray, List.map_cons, List.map_nil]); first | done | rfl | (simp only [List.length_drop, List.length_take]; rfl) | (simp only [ByteArray.size_extract, Nat.min_self]; done) | (simp only [ByteArray.size_extract, Nat.min_self]; rfl)) ?_; (with_reducible refine (resolve_Int.calls kj1 a0 t232 false _ A14.out).mono ?_); rintro e w21 ⟨rfl, hb⟩; refine ⟨_, rfl, ?_⟩; have n0_ := Aside0.mk (below_step (by repeat (first | (with_reducible first | exact HB.out | apply below_alloc | apply pw_below_drewN | apply below_drew1) | exact HB.out)) hb); clear HB; have HB := n0_; clear n0_; (try clear hb); (try clear hb2); (try clear hk); (try clear hi)) | ((with_reducible refine gate_callee (f := 44) rfl ?_); refine goesL_ (some 26) rfl rfl Try.func44 (by kernel_rfl) rfl #[.string a0] rfl (by (try simp only [List.map_toArray, List.map_cons, List.map_nil]); first | done | rfl | (simp only [List.length_drop, List.length_take]; rfl) | (simp only [ByteArray.size_extract, Nat.min_self]; done) | (simp only [ByteArray.size_extract, Nat.min_self]; rfl)) ?_; (with_reducible refine (resolve_float.calls kj1 a0 false _ A17.out).mono ?_); rintro e w22 ⟨rfl, hb⟩; refine ⟨_, rfl, ?_⟩; have n0_ := Aside0.mk (below_step (by repeat (first | (with_reducible first | exact HB.out | apply below_alloc | apply pw_below_drewN | apply below_drew1) | exact HB.out)) hb); clear HB; have HB := n0_; clear n0_; (try clear hb); (try clear hb2); (try clear hk); (try clear hi)))
                        go_ret
                        exact ⟨by first | rfl | (simp [errW_none, errW_some] <;> rfl) | (simp [*, errW_none, errW_some] <;> rfl), by repeat (first | (with_reducible first | exact HB.out | apply below_alloc | apply pw_below_drewN | apply below_drew1) | exact HB.out)⟩

/-! ### resolve_Tagged: function 31 -/
def resolve_Tagged.f (k : Nat) (a0 : ByteArray) (a1 : ByteArray) (a2 : Bool) : Option (Int) := (resolve_Kind.f k a1).bind fun t319 => (if a0.toList = ([] : List UInt8) then (if a2 = true then (some t319) else (some 5)) else (if a0.toList = ([33, 33, 102, 108, 111, 97, 116] : List UInt8) then (if t319 = 3 then ((some (([(⟨#[]⟩ : ByteArray), (⟨#[33, 33, 110, 117, 108, 108]⟩ : ByteArray), (⟨#[33, 33, 98, 111, 111, 108]⟩ : ByteArray), (⟨#[33, 33, 105, 110, 116]⟩ : ByteArray), (⟨#[33, 33, 102, 108, 111, 97, 116]⟩ : ByteArray), (⟨#[]⟩ : ByteArray)] : List ByteArray) : List ByteArray)).bind fun y320 => (if 4 < (y320.length : Int) then (if (rdOf ByteArray.empty y320 4).toList = a0.toList then (some 4) else (some 5)) else (none))) else ((some (([(⟨#[]⟩ : ByteArray), (⟨#[33, 33, 110, 117, 108, 108]⟩ : ByteArray), (⟨#[33, 33, 98, 111, 111, 108]⟩ : ByteArray), (⟨#[33, 33, 105, 110, 116]⟩ : ByteArray), (⟨#[33, 33, 102, 108, 111, 97, 116]⟩ : ByteArray), (⟨#[]⟩ : ByteArray)] : List ByteArray) : List ByteArray)).bind fun y324 => (if 0 ≤ t319 then (if t319 < (y324.length : Int) then (if (rdOf ByteArray.empty y324 t319).toList = a0.toList then (some t319) else (some 5)) else (none)) else (none)))) else ((some (([(⟨#[]⟩ : ByteArray), (⟨#[33, 33, 110, 117, 108, 108]⟩ : ByteArray), (⟨#[33, 33, 98, 111, 111, 108]⟩ : ByteArray), (⟨#[33, 33, 105, 110, 116]⟩ : ByteArray), (⟨#[33, 33, 102, 108, 111, 97, 116]⟩ : ByteArray), (⟨#[]⟩ : ByteArray)] : List ByteArray) : List ByteArray)).bind fun y328 => (if 0 ≤ t319 then (if t319 < (y328.length : Int) then (if (rdOf ByteArray.empty y328 t319).toList = a0.toList then (some t319) else (some 5)) else (none)) else (none)))))
theorem resolve_Tagged.mono : ∀ a0 a1 a2 k, LeO (resolve_Tagged.f k a0 a1 a2) (resolve_Tagged.f (k + 1) a0 a1 a2) := by
  intro a0 a1 a2 k
  unfold resolve_Tagged.f
  repeat' first
      | (with_reducible exact resolve_Kind.mono _ _)
      | (with_reducible exact LeO.refl _)
      | (with_reducible exact LeO.none _)
      | (with_reducible refine LeO.ite ?_ ?_)
      | (with_reducible refine LeO.bind ?_ (fun _ => ?_))
      | exact resolve_Kind.mono _ _
      | exact LeO.none _
      | refine LeO.ite ?_ ?_
      | refine LeO.bind ?_ (fun _ => ?_)
set_option maxHeartbeats 8000000 in
set_option maxRecDepth 100000 in
theorem resolve_Tagged.calls (k : Nat) (a0 : ByteArray) (a1 : ByteArray) (a2 : Bool) (r : Int) (w : World) (h : resolve_Tagged.f k a0 a1 a2 = some r) :
    Calls Try.prog 31 #[.string a0, .string a1, .bool a2] w fun e w' => e = .returned (.int .i64 r) ∧ Below w.heap.size w w' := by
  have HB := Aside0.mk (Below.refl w.heap.size w)
  have H : ((resolve_Kind.f k a1).bind fun t319 => (if a0.toList = ([] : List UInt8) then (if a2 = true then (some t319) else (some 5)) else (if a0.toList = ([33, 33, 102, 108, 111, 97, 116] : List UInt8) then (if t319 = 3 then ((some (([(⟨#[]⟩ : ByteArray), (⟨#[33, 33, 110, 117, 108, 108]⟩ : ByteArray), (⟨#[33, 33, 98, 111, 111, 108]⟩ : ByteArray), (⟨#[33, 33, 105, 110, 116]⟩ : ByteArray), (⟨#[33, 33, 102, 108, 111, 97, 116]⟩ : ByteArray), (⟨#[]⟩ : ByteArray)] : List ByteArray) : List ByteArray)).bind fun y320 => (if 4 < (y320.length : Int) then (if (rdOf ByteArray.empty y320 4).toList = a0.toList then (some 4) else (some 5)) else (none))) else ((some (([(⟨#[]⟩ : ByteArray), (⟨#[33, 33, 110, 117, 108, 108]⟩ : ByteArray), (⟨#[33, 33, 98, 111, 111, 108]⟩ : ByteArray), (⟨#[33, 33, 105, 110, 116]⟩ : ByteArray), (⟨#[33, 33, 102, 108, 111, 97, 116]⟩ : ByteArray), (⟨#[]⟩ : ByteArray)] : List ByteArray) : List ByteArray)).bind fun y324 => (if 0 ≤ t319 then (if t319 < (y324.length : Int) then (if (rdOf ByteArray.empty y324 t319).toList = a0.toList then (some t319) else (some 5)) else (none)) else (none)))) else ((some (([(⟨#[]⟩ : ByteArray), (⟨#[33, 33, 110, 117, 108, 108]⟩ : ByteArray), (⟨#[33, 33, 98, 111, 111, 108]⟩ : ByteArray), (⟨#[33, 33, 105, 110, 116]⟩ : ByteArray), (⟨#[33, 33, 102, 108, 111, 97, 116]⟩ : ByteArray), (⟨#[]⟩ : ByteArray)] : List ByteArray) : List ByteArray)).bind fun y328 => (if 0 ≤ t319 then (if t319 < (y328.length : Int) then (if (rdOf ByteArray.empty y328 t319).toList = a0.toList then (some t319) else (some 5)) else (none)) else (none)))))) = some r := h
  clear h
  replace H := Option.bind_eq_some_iff.mp H
  obtain ⟨t319, A40, H⟩ := H
  replace H : (if a0.toList = ([] : List UInt8) then (if a2 = true then (some t319) else (some 5)) else (if a0.toList = ([33, 33, 102, 108, 111, 97, 116] : List UInt8) then (if t319 = 3 then ((some (([(⟨#[]⟩ : ByteArray), (⟨#[33, 33, 110, 117, 108, 108]⟩ : ByteArray), (⟨#[33, 33, 98, 111, 111, 108]⟩ : ByteArray), (⟨#[33, 33, 105, 110, 116]⟩ : ByteArray), (⟨#[33, 33, 102, 108, 111, 97, 116]⟩ : ByteArray), (⟨#[]⟩ : ByteArray)] : List ByteArray) : List ByteArray)).bind fun y320 => (if 4 < (y320.length : Int) then (if (rdOf ByteArray.empty y320 4).toList = a0.toList then (some 4) else (some 5)) else (none))) else ((some (([(⟨#[]⟩ : ByteArray), (⟨#[33, 33, 110, 117, 108, 108]⟩ : ByteArray), (⟨#[33, 33, 98, 111, 111, 108]⟩ : ByteArray), (⟨#[33, 33, 105, 110, 116]⟩ : ByteArray), (⟨#[33, 33, 102, 108, 111, 97, 116]⟩ : ByteArray), (⟨#[]⟩ : ByteArray)] : List ByteArray) : List ByteArray)).bind fun y324 => (if 0 ≤ t319 then (if t319 < (y324.length : Int) then (if (rdOf ByteArray.empty y324 t319).toList = a0.toList then (some t319) else (some 5)) else (none)) else (none)))) else ((some (([(⟨#[]⟩ : ByteArray), (⟨#[33, 33, 110, 117, 108, 108]⟩ : ByteArray), (⟨#[33, 33, 98, 111, 111, 108]⟩ : ByteArray), (⟨#[33, 33, 105, 110, 116]⟩ : ByteArray), (⟨#[33, 33, 102, 108, 111, 97, 116]⟩ : ByteArray), (⟨#[]⟩ : ByteArray)] : List ByteArray) : List ByteArray)).bind fun y328 => (if 0 ≤ t319 then (if t319 < (y328.length : Int) then (if (rdOf ByteArray.empty y328 t319).toList = a0.toList then (some t319) else (some 5)) else (none)) else (none))))) = some r := H
  have A4 := Aside0.mk A40
  clear A40
  by_cases c5 : a0.toList = ([] : List UInt8)
  · rw [if_pos c5] at H
    have c5b0 : (a0.toList == ([] : List UInt8)) = true := beq_iff_eq.mpr c5
    have c5b1 : (a0.toList != ([] : List UInt8)) = false := bne_eq_false_iff_eq.mpr c5
    (try (have c5b2 : a0.toList.isEmpty = true := by simpa using c5))
    clear c5
    by_cases c6 : a2 = true
    · subst c6
      have H1 : (some t319) = some r := by rw [if_pos rfl] at H; exact H
      clear H
      have H := H1
      clear H1
      obtain rfl := Option.some.inj H
      go_enter Try.func31, Try.ntmps31
      go_wp2_with (first | ((with_reducible refine gate_callee (f := 26) rfl ?_); refine goesL_ (some 10) rfl rfl Try.func26 (by kernel_rfl) rfl #[.string a1] rfl (by (try simp only [List.map_toArray, List.map_cons, List.map_nil]); first | done | rfl | (simp only [List.length_drop, List.length_take]; rfl) | (simp only [ByteArray.size_extract, Nat.min_self]; done) | (simp only [ByteArray.size_extract, Nat.min_self]; rfl)) ?_; (with_reducible refine (resolve_Kind.calls k a1 t319 _ A4.out).mono ?_); rintro e w7 ⟨rfl, hb⟩; refine ⟨_, rfl, ?_⟩; have n0_ := Aside0.mk (below_step (by repeat (first | (with_reducible first | exact HB.out | apply below_alloc | apply pw_below_drewN | apply below_drew1) | exact HB.out)) hb); clear HB; have HB := n0_; clear n0_; (try clear hb); (try clear hb2); (try clear hk); (try clear hi)))
      go_ret
      exact ⟨by first | rfl | (simp [errW_none, errW_some] <;> rfl) | (simp [*, errW_none, errW_some] <;> rfl), by repeat (first | (with_reducible first | exact HB.out | apply below_alloc | apply pw_below_drewN | apply below_drew1) | exact HB.out)⟩
    · replace c6 := Bool.eq_false_iff.mpr c6
      subst c6
      have H1 : (some 5) = some r := by rw [if_neg (show ¬ (false = true) by decide)] at H; exact H
      clear H
      have H := H1
      clear H1
      obtain rfl := Option.some.inj H
      go_enter Try.func31, Try.ntmps31
      go_wp2_with (first | ((with_reducible refine gate_callee (f := 26) rfl ?_); refine goesL_ (some 10) rfl rfl Try.func26 (by kernel_rfl) rfl #[.string a1] rfl (by (try simp only [List.map_toArray, List.map_cons, List.map_nil]); first | done | rfl | (simp only [List.length_drop, List.length_take]; rfl) | (simp only [ByteArray.size_extract, Nat.min_self]; done) | (simp only [ByteArray.size_extract, Nat.min_self]; rfl)) ?_; (with_reducible refine (resolve_Kind.calls k a1 t319 _ A4.out).mono ?_); rintro e w8 ⟨rfl, hb⟩; refine ⟨_, rfl, ?_⟩; have n0_ := Aside0.mk (below_step (by repeat (first | (with_reducible first | exact HB.out | apply below_alloc | apply pw_below_drewN | apply below_drew1) | exact HB.out)) hb); clear HB; have HB := n0_; clear n0_; (try clear hb); (try clear hb2); (try clear hk); (try clear hi)))
      go_ret
      exact ⟨by first | rfl | (simp [errW_none, errW_some] <;> rfl) | (simp [*, errW_none, errW_some] <;> rfl), by repeat (first | (with_reducible first | exact HB.out | apply below_alloc | apply pw_below_drewN | apply below_drew1) | exact HB.out)⟩
  · rw [if_neg c5] at H
    have c5b0 : (a0.toList == ([] : List UInt8)) = false := beq_eq_false_iff_ne.mpr c5
    have c5b1 : (a0.toList != ([] : List UInt8)) = true := bne_iff_ne.mpr c5
    (try (have c5b2 : a0.toList.isEmpty = false := by simpa using c5))
    by_cases c9 : a0.toList = ([33, 33, 102, 108, 111, 97, 116] : List UInt8)
    · rw [if_pos c9] at H
      have c9b0 : (a0.toList == ([33, 33, 102, 108, 111, 97, 116] : List UInt8)) = true := beq_iff_eq.mpr c9
      have c9b1 : (a0.toList != ([33, 33, 102, 108, 111, 97, 116] : List UInt8)) = false := bne_eq_false_iff_eq.mpr c9
      clear c9
      by_cases c10 : t319 = 3
      · rw [if_pos c10] at H
        have c10b0 : (t319 == 3) = true := beq_iff_eq.mpr c10
        have c10b1 : (t319 != 3) = false := bne_eq_false_iff_eq.mpr c10
        clear c10
        obtain ⟨y320, hy320⟩ : ∃ y_ : List ByteArray, y_ = (([(⟨#[]⟩ : ByteArray), (⟨#[33, 33, 110, 117, 108, 108]⟩ : ByteArray), (⟨#[33, 33, 98, 111, 111, 108]⟩ : ByteArray), (⟨#[33, 33, 105, 110, 116]⟩ : ByteArray), (⟨#[33, 33, 102, 108, 111, 97, 116]⟩ : ByteArray), (⟨#[]⟩ : ByteArray)] : List ByteArray)) := ⟨_, rfl⟩
        replace H : (if 4 < (y320.length : Int) then (if (rdOf ByteArray.empty y320 4).toList = a0.toList then (some 4) else (some 5)) else (none)) = some r := by first | (rw [hy320]; with_reducible exact H) | (have H2_ := (Option.bind_some _ _).symm.trans H; rw [hy320]; with_reducible exact H2_) | (have H2_ := (Option.bind_some _ _).symm.trans H; with_reducible exact H2_) | with_reducible exact H | (rw [hy320]; exact H) | exact H
        have Ny320 := Aside0.mk hy320
        clear hy320
        by_cases c11 : 4 < (y320.length : Int)
        · rw [if_pos c11] at H
          have c11b0 : decide (4 < (y320.length : Int)) = true := decide_eq_true c11
          have c11b1 : decide (4 < y320.length) = true := decide_eq_true (by omega)
          clear c11
          by_cases c12 : (rdOf ByteArray.empty y320 4).toList = a0.toList
          · rw [if_pos c12] at H
            have c12b0 : ((rdOf ByteArray.empty y320 4).toList == a0.toList) = true := beq_iff_eq.mpr c12
            have c12b1 : ((rdOf ByteArray.empty y320 4).toList != a0.toList) = false := bne_eq_false_iff_eq.mpr c12
            clear c12
            obtain rfl := Option.some.inj H
            go_enter Try.func31, Try.ntmps31
            go_wp2_with (first | ((with_reducible refine gate_callee (f := 26) rfl ?_); refine goesL_ (some 10) rfl rfl Try.func26 (by kernel_rfl) rfl #[.string a1] rfl (by (try simp only [List.map_toArray, List.map_cons, List.map_nil]); first | done | rfl | (simp only [List.length_drop, List.length_take]; rfl) | (simp only [ByteArray.size_extract, Nat.min_self]; done) | (simp only [ByteArray.size_extract, Nat.min_self]; rfl)) ?_; (with_reducible refine (resolve_Kind.calls k a1 t319 _ A4.out).mono ?_); rintro e w13 ⟨rfl, hb⟩; refine ⟨_, rfl, ?_⟩; have n0_ := Aside0.mk (below_step (by repeat (first | (with_reducible first | exact HB.out | apply below_alloc | apply pw_below_drewN | apply below_drew1) | exact HB.out)) hb); clear HB; have HB := n0_; clear n0_; (try clear hb); (try clear hb2); (try clear hk); (try clear hi)) | ((with_reducible refine gate_dst (N := 20) rfl ?_); refine Kd.R_lit Kd.string _ 9 ?hg (N := 20) ?hd (xs := ([(⟨#[]⟩ : ByteArray), (⟨#[33, 33, 110, 117, 108, 108]⟩ : ByteArray), (⟨#[33, 33, 98, 111, 111, 108]⟩ : ByteArray), (⟨#[33, 33, 105, 110, 116]⟩ : ByteArray), (⟨#[33, 33, 102, 108, 111, 97, 116]⟩ : ByteArray), (⟨#[]⟩ : ByteArray)] : List ByteArray)) (inner := [.string (⟨#[]⟩ : ByteArray), .string (⟨#[33, 33, 110, 117, 108, 108]⟩ : ByteArray), .string (⟨#[33, 33, 98, 111, 111, 108]⟩ : ByteArray), .string (⟨#[33, 33, 105, 110, 116]⟩ : ByteArray), .string (⟨#[33, 33, 102, 108, 111, 97, 116]⟩ : ByteArray), .string (⟨#[]⟩ : ByteArray)]) (ok := fun _ => True) (okp := fun _ => True) ?hr ?hp (fun _ hk => hk) trivial (Below.refl _ _) (Nat.le_refl _) (by simp) ?_; (case hd => rfl); (case hg => rfl); (case hr => first | (go_simp; done) | (go_simp; rfl)); (case hp => exact (Reps.one (show Kd.M Kd.string _ _ _ (⟨#[]⟩ : ByteArray) [.string (⟨#[]⟩ : ByteArray)] from rfl) (Reps.one (show Kd.M Kd.string _ _ _ (⟨#[33, 33, 110, 117, 108, 108]⟩ : ByteArray) [.string (⟨#[33, 33, 110, 117, 108, 108]⟩ : ByteArray)] from rfl) (Reps.one (show Kd.M Kd.string _ _ _ (⟨#[33, 33, 98, 111, 111, 108]⟩ : ByteArray) [.string (⟨#[33, 33, 98, 111, 111, 108]⟩ : ByteArray)] from rfl) (Reps.one (show Kd.M Kd.string _ _ _ (⟨#[33, 33, 105, 110, 116]⟩ : ByteArray) [.string (⟨#[33, 33, 105, 110, 116]⟩ : ByteArray)] from rfl) (Reps.one (show Kd.M Kd.string _ _ _ (⟨#[33, 33, 102, 108, 111, 97, 116]⟩ : ByteArray) [.string (⟨#[33, 33, 102, 108, 111, 97, 116]⟩ : ByteArray)] from rfl) (Reps.one (show Kd.M Kd.string _ _ _ (⟨#[]⟩ : ByteArray) [.string (⟨#[]⟩ : ByteArray)] from rfl) (Reps.none _ _)))))))); intro v321 w14 ho15 hb hg_ hnew_; clear hg_ hnew_; (first | rw [← Ny320.out] at ho15 | (simp only [Int.reduceToNat] at ho15; rw [← Ny320.out] at ho15)); have n0_ := Aside0.mk (Kd.R_lower ho15 (below_size (by repeat (first | (with_reducible first | exact HB.out | apply below_alloc | apply pw_below_drewN | apply below_drew1) | exact HB.out)))); have n1_ := Aside0.mk (below_step (by repeat (first | (with_reducible first | exact HB.out | apply below_alloc | apply pw_below_drewN | apply below_drew1) | exact HB.out)) hb); clear HB; have HO322 := n0_; have HB := n1_; clear n0_ n1_; clear hb ho15; obtain ⟨Ao16, co16, eo16⟩ := Kd.R_slice HO322.out; subst eo16; have p323 : 0 ≤ (4 : Int) := (by omega); have q323 : 4 < (y320.length : Int) := of_decide_eq_true (by first | (with_reducible assumption) | assumption); obtain ⟨ad323, e323, hx323_0⟩ := Kd.at_string (Kd.R_reads' HO322.out).2.2 4 p323 q323; cases e323; (try simp only [show (4 : Int).toNat = 4 from rfl, Nat.reduceMul, Nat.reduceEqDiff, Go.Addr.add, ↓reduceIte] at hx323_0); have qi323 : (4 < y320.length) = True := eq_true (by omega); (try rw [show ((4 : Int)).toNat = 4 from rfl] at hx323_0); replace p323 := eq_true p323; replace q323 := eq_true q323))
            go_ret
            exact ⟨by first | rfl | (simp [errW_none, errW_some] <;> rfl) | (simp [*, errW_none, errW_some] <;> rfl), by repeat (first | (with_reducible first | exact HB.out | apply below_alloc | apply pw_below_drewN | apply below_drew1) | exact HB.out)⟩
          · rw [if_neg c12] at H
            have c12b0 : ((rdOf ByteArray.empty y320 4).toList == a0.toList) = false := beq_eq_false_iff_ne.mpr c12
            have c12b1 : ((rdOf ByteArray.empty y320 4).toList != a0.toList) = true := bne_iff_ne.mpr c12
            obtain rfl := Option.some.inj H
            go_enter Try.func31, Try.ntmps31
            go_wp2_with (first | ((with_reducible refine gate_callee (f := 26) rfl ?_); refine goesL_ (some 10) rfl rfl Try.func26 (by kernel_rfl) rfl #[.string a1] rfl (by (try simp only [List.map_toArray, List.map_cons, List.map_nil]); first | done | rfl | (simp only [List.length_drop, List.length_take]; rfl) | (simp only [ByteArray.size_extract, Nat.min_self]; done) | (simp only [ByteArray.size_extract, Nat.min_self]; rfl)) ?_; (with_reducible refine (resolve_Kind.calls k a1 t319 _ A4.out).mono ?_); rintro e w17 ⟨rfl, hb⟩; refine ⟨_, rfl, ?_⟩; have n0_ := Aside0.mk (below_step (by repeat (first | (with_reducible first | exact HB.out | apply below_alloc | apply pw_below_drewN | apply below_drew1) | exact HB.out)) hb); clear HB; have HB := n0_; clear n0_; (try clear hb); (try clear hb2); (try clear hk); (try clear hi)) | ((with_reducible refine gate_dst (N := 20) rfl ?_); refine Kd.R_lit Kd.string _ 9 ?hg (N := 20) ?hd (xs := ([(⟨#[]⟩ : ByteArray), (⟨#[33, 33, 110, 117, 108, 108]⟩ : ByteArray), (⟨#[33, 33, 98, 111, 111, 108]⟩ : ByteArray), (⟨#[33, 33, 105, 110, 116]⟩ : ByteArray), (⟨#[33, 33, 102, 108, 111, 97, 116]⟩ : ByteArray), (⟨#[]⟩ : ByteArray)] : List ByteArray)) (inner := [.string (⟨#[]⟩ : ByteArray), .string (⟨#[33, 33, 110, 117, 108, 108]⟩ : ByteArray), .string (⟨#[33, 33, 98, 111, 111, 108]⟩ : ByteArray), .string (⟨#[33, 33, 105, 110, 116]⟩ : ByteArray), .string (⟨#[33, 33, 102, 108, 111, 97, 116]⟩ : ByteArray), .string (⟨#[]⟩ : ByteArray)]) (ok := fun _ => True) (okp := fun _ => True) ?hr ?hp (fun _ hk => hk) trivial (Below.refl _ _) (Nat.le_refl _) (by simp) ?_; (case hd => rfl); (case hg => rfl); (case hr => first | (go_simp; done) | (go_simp; rfl)); (case hp => exact (Reps.one (show Kd.M Kd.string _ _ _ (⟨#[]⟩ : ByteArray) [.string (⟨#[]⟩ : ByteArray)] from rfl) (Reps.one (show Kd.M Kd.string _ _ _ (⟨#[33, 33, 110, 117, 108, 108]⟩ : ByteArray) [.string (⟨#[33, 33, 110, 117, 108, 108]⟩ : ByteArray)] from rfl) (Reps.one (show Kd.M Kd.string _ _ _ (⟨#[33, 33, 98, 111, 111, 108]⟩ : ByteArray) [.string (⟨#[33, 33, 98, 111, 111, 108]⟩ : ByteArray)] from rfl) (Reps.one (show Kd.M Kd.string _ _ _ (⟨#[33, 33, 105, 110, 116]⟩ : ByteArray) [.string (⟨#[33, 33, 105, 110, 116]⟩ : ByteArray)] from rfl) (Reps.one (show Kd.M Kd.string _ _ _ (⟨#[33, 33, 102, 108, 111, 97, 116]⟩ : ByteArray) [.string (⟨#[33, 33, 102, 108, 111, 97, 116]⟩ : ByteArray)] from rfl) (Reps.one (show Kd.M Kd.string _ _ _ (⟨#[]⟩ : ByteArray) [.string (⟨#[]⟩ : ByteArray)] from rfl) (Reps.none _ _)))))))); intro v321 w18 ho19 hb hg_ hnew_; clear hg_ hnew_; (first | rw [← Ny320.out] at ho19 | (simp only [Int.reduceToNat] at ho19; rw [← Ny320.out] at ho19)); have n0_ := Aside0.mk (Kd.R_lower ho19 (below_size (by repeat (first | (with_reducible first | exact HB.out | apply below_alloc | apply pw_below_drewN | apply below_drew1) | exact HB.out)))); have n1_ := Aside0.mk (below_step (by repeat (first | (with_reducible first | exact HB.out | apply below_alloc | apply pw_below_drewN | apply below_drew1) | exact HB.out)) hb); clear HB; have HO322 := n0_; have HB := n1_; clear n0_ n1_; clear hb ho19; obtain ⟨Ao20, co20, eo20⟩ := Kd.R_slice HO322.out; subst eo20; have p323 : 0 ≤ (4 : Int) := (by omega); have q323 : 4 < (y320.length : Int) := of_decide_eq_true (by first | (with_reducible assumption) | assumption); obtain ⟨ad323, e323, hx323_0⟩ := Kd.at_string (Kd.R_reads' HO322.out).2.2 4 p323 q323; cases e323; (try simp only [show (4 : Int).toNat = 4 from rfl, Nat.reduceMul, Nat.reduceEqDiff, Go.Addr.add, ↓reduceIte] at hx323_0); have qi323 : (4 < y320.length) = True := eq_true (by omega); (try rw [show ((4 : Int)).toNat = 4 from rfl] at hx323_0); replace p323 := eq_true p323; replace q323 := eq_true q323))
            go_ret
            exact ⟨by first | rfl | (simp [errW_none, errW_some] <;> rfl) | (simp [*, errW_none, errW_some] <;> rfl), by repeat (first | (with_reducible first | exact HB.out | apply below_alloc | apply pw_below_drewN | apply below_drew1) | exact HB.out)⟩
        · rw [if_neg c11] at H
          exact absurd H (by simp)
      · rw [if_neg c10] at H
        have c10b0 : (t319 == 3) = false := beq_eq_false_iff_ne.mpr c10
        have c10b1 : (t319 != 3) = true := bne_iff_ne.mpr c10
        obtain ⟨y324, hy324⟩ : ∃ y_ : List ByteArray, y_ = (([(⟨#[]⟩ : ByteArray), (⟨#[33, 33, 110, 117, 108, 108]⟩ : ByteArray), (⟨#[33, 33, 98, 111, 111, 108]⟩ : ByteArray), (⟨#[33, 33, 105, 110, 116]⟩ : ByteArray), (⟨#[33, 33, 102, 108, 111, 97, 116]⟩ : ByteArray), (⟨#[]⟩ : ByteArray)] : List ByteArray)) := ⟨_, rfl⟩
        replace H : (if 0 ≤ t319 then (if t319 < (y324.length : Int) then (if (rdOf ByteArray.empty y324 t319).toList = a0.toList then (some t319) else (some 5)) else (none)) else (none)) = some r := by first | (rw [hy324]; with_reducible exact H) | (have H2_ := (Option.bind_some _ _).symm.trans H; rw [hy324]; with_reducible exact H2_) | (have H2_ := (Option.bind_some _ _).symm.trans H; with_reducible exact H2_) | with_reducible exact H | (rw [hy324]; exact H) | exact H
        have Ny324 := Aside0.mk hy324
        clear hy324
        by_cases c21 : 0 ≤ t319
        · rw [if_pos c21] at H
          have c21b0 : decide (0 ≤ t319) = true := decide_eq_true c21
          clear c21
          by_cases c22 : t319 < (y324.length : Int)
          · rw [if_pos c22] at H
            have c22b0 : decide (t319 < (y324.length : Int)) = true := decide_eq_true c22
            clear c22
            by_cases c23 : (rdOf ByteArray.empty y324 t319).toList = a0.toList
            · rw [if_pos c23] at H
              have c23b0 : ((rdOf ByteArray.empty y324 t319).toList == a0.toList) = true := beq_iff_eq.mpr c23
              have c23b1 : ((rdOf ByteArray.empty y324 t319).toList != a0.toList) = false := bne_eq_false_iff_eq.mpr c23
              clear c23
              obtain rfl := Option.some.inj H
              go_enter Try.func31, Try.ntmps31
              go_wp2_with (first | ((with_reducible refine gate_callee (f := 26) rfl ?_); refine goesL_ (some 10) rfl rfl Try.func26 (by kernel_rfl) rfl #[.string a1] rfl (by (try simp only [List.map_toArray, List.map_cons, List.map_nil]); first | done | rfl | (simp only [List.length_drop, List.length_take]; rfl) | (simp only [ByteArray.size_extract, Nat.min_self]; done) | (simp only [ByteArray.size_extract, Nat.min_self]; rfl)) ?_; (with_reducible refine (resolve_Kind.calls k a1 t319 _ A4.out).mono ?_); rintro e w24 ⟨rfl, hb⟩; refine ⟨_, rfl, ?_⟩; have n0_ := Aside0.mk (below_step (by repeat (first | (with_reducible first | exact HB.out | apply below_alloc | apply pw_below_drewN | apply below_drew1) | exact HB.out)) hb); clear HB; have HB := n0_; clear n0_; (try clear hb); (try clear hb2); (try clear hk); (try clear hi)) | ((with_reducible refine gate_dst (N := 20) rfl ?_); refine Kd.R_lit Kd.string _ 9 ?hg (N := 20) ?hd (xs := ([(⟨#[]⟩ : ByteArray), (⟨#[33, 33, 110, 117, 108, 108]⟩ : ByteArray), (⟨#[33, 33, 98, 111, 111, 108]⟩ : ByteArray), (⟨#[33, 33, 105, 110, 116]⟩ : ByteArray), (⟨#[33, 33, 102, 108, 111, 97, 116]⟩ : ByteArray), (⟨#[]⟩ : ByteArray)] : List ByteArray)) (inner := [.string (⟨#[]⟩ : ByteArray), .string (⟨#[33, 33, 110, 117, 108, 108]⟩ : ByteArray), .string (⟨#[33, 33, 98, 111, 111, 108]⟩ : ByteArray), .string (⟨#[33, 33, 105, 110, 116]⟩ : ByteArray), .string (⟨#[33, 33, 102, 108, 111, 97, 116]⟩ : ByteArray), .string (⟨#[]⟩ : ByteArray)]) (ok := fun _ => True) (okp := fun _ => True) ?hr ?hp (fun _ hk => hk) trivial (Below.refl _ _) (Nat.le_refl _) (by simp) ?_; (case hd => rfl); (case hg => rfl); (case hr => first | (go_simp; done) | (go_simp; rfl)); (case hp => exact (Reps.one (show Kd.M Kd.string _ _ _ (⟨#[]⟩ : ByteArray) [.string (⟨#[]⟩ : ByteArray)] from rfl) (Reps.one (show Kd.M Kd.string _ _ _ (⟨#[33, 33, 110, 117, 108, 108]⟩ : ByteArray) [.string (⟨#[33, 33, 110, 117, 108, 108]⟩ : ByteArray)] from rfl) (Reps.one (show Kd.M Kd.string _ _ _ (⟨#[33, 33, 98, 111, 111, 108]⟩ : ByteArray) [.string (⟨#[33, 33, 98, 111, 111, 108]⟩ : ByteArray)] from rfl) (Reps.one (show Kd.M Kd.string _ _ _ (⟨#[33, 33, 105, 110, 116]⟩ : ByteArray) [.string (⟨#[33, 33, 105, 110, 116]⟩ : ByteArray)] from rfl) (Reps.one (show Kd.M Kd.string _ _ _ (⟨#[33, 33, 102, 108, 111, 97, 116]⟩ : ByteArray) [.string (⟨#[33, 33, 102, 108, 111, 97, 116]⟩ : ByteArray)] from rfl) (Reps.one (show Kd.M Kd.string _ _ _ (⟨#[]⟩ : ByteArray) [.string (⟨#[]⟩ : ByteArray)] from rfl) (Reps.none _ _)))))))); intro v325 w25 ho26 hb hg_ hnew_; clear hg_ hnew_; (first | rw [← Ny324.out] at ho26 | (simp only [Int.reduceToNat] at ho26; rw [← Ny324.out] at ho26)); have n0_ := Aside0.mk (Kd.R_lower ho26 (below_size (by repeat (first | (with_reducible first | exact HB.out | apply below_alloc | apply pw_below_drewN | apply below_drew1) | exact HB.out)))); have n1_ := Aside0.mk (below_step (by repeat (first | (with_reducible first | exact HB.out | apply below_alloc | apply pw_below_drewN | apply below_drew1) | exact HB.out)) hb); clear HB; have HO326 := n0_; have HB := n1_; clear n0_ n1_; clear hb ho26; obtain ⟨Ao27, co27, eo27⟩ := Kd.R_slice HO326.out; subst eo27; have p327 : 0 ≤ (t319 : Int) := of_decide_eq_true (by first | (with_reducible assumption) | assumption); have q327 : t319 < (y324.length : Int) := of_decide_eq_true (by first | (with_reducible assumption) | assumption); obtain ⟨ad327, e327, hx327_0⟩ := Kd.at_string (Kd.R_reads' HO326.out).2.2 t319 p327 q327; cases e327; replace p327 := eq_true p327; replace q327 := eq_true q327))
              go_ret
              exact ⟨by first | rfl | (simp [errW_none, errW_some] <;> rfl) | (simp [*, errW_none, errW_some] <;> rfl), by repeat (first | (with_reducible first | exact HB.out | apply below_alloc | apply pw_below_drewN | apply below_drew1) | exact HB.out)⟩
            · rw [if_neg c23] at H
              have c23b0 : ((rdOf ByteArray.empty y324 t319).toList == a0.toList) = false := beq_eq_false_iff_ne.mpr c23
              have c23b1 : ((rdOf ByteArray.empty y324 t319).toList != a0.toList) = true := bne_iff_ne.mpr c23
              obtain rfl := Option.some.inj H
              go_enter Try.func31, Try.ntmps31
              go_wp2_with (first | ((with_reducible refine gate_callee (f := 26) rfl ?_); refine goesL_ (some 10) rfl rfl Try.func26 (by kernel_rfl) rfl #[.string a1] rfl (by (try simp only [List.map_toArray, List.map_cons, List.map_nil]); first | done | rfl | (simp only [List.length_drop, List.length_take]; rfl) | (simp only [ByteArray.size_extract, Nat.min_self]; done) | (simp only [ByteArray.size_extract, Nat.min_self]; rfl)) ?_; (with_reducible refine (resolve_Kind.calls k a1 t319 _ A4.out).mono ?_); rintro e w28 ⟨rfl, hb⟩; refine ⟨_, rfl, ?_⟩; have n0_ := Aside0.mk (below_step (by repeat (first | (with_reducible first | exact HB.out | apply below_alloc | apply pw_below_drewN | apply below_drew1) | exact HB.out)) hb); clear HB; have HB := n0_; clear n0_; (try clear hb); (try clear hb2); (try clear hk); (try clear hi)) | ((with_reducible refine gate_dst (N := 20) rfl ?_); refine Kd.R_lit Kd.string _ 9 ?hg (N := 20) ?hd (xs := ([(⟨#[]⟩ : ByteArray), (⟨#[33, 33, 110, 117, 108, 108]⟩ : ByteArray), (⟨#[33, 33, 98, 111, 111, 108]⟩ : ByteArray), (⟨#[33, 33, 105, 110, 116]⟩ : ByteArray), (⟨#[33, 33, 102, 108, 111, 97, 116]⟩ : ByteArray), (⟨#[]⟩ : ByteArray)] : List ByteArray)) (inner := [.string (⟨#[]⟩ : ByteArray), .string (⟨#[33, 33, 110, 117, 108, 108]⟩ : ByteArray), .string (⟨#[33, 33, 98, 111, 111, 108]⟩ : ByteArray), .string (⟨#[33, 33, 105, 110, 116]⟩ : ByteArray), .string (⟨#[33, 33, 102, 108, 111, 97, 116]⟩ : ByteArray), .string (⟨#[]⟩ : ByteArray)]) (ok := fun _ => True) (okp := fun _ => True) ?hr ?hp (fun _ hk => hk) trivial (Below.refl _ _) (Nat.le_refl _) (by simp) ?_; (case hd => rfl); (case hg => rfl); (case hr => first | (go_simp; done) | (go_simp; rfl)); (case hp => exact (Reps.one (show Kd.M Kd.string _ _ _ (⟨#[]⟩ : ByteArray) [.string (⟨#[]⟩ : ByteArray)] from rfl) (Reps.one (show Kd.M Kd.string _ _ _ (⟨#[33, 33, 110, 117, 108, 108]⟩ : ByteArray) [.string (⟨#[33, 33, 110, 117, 108, 108]⟩ : ByteArray)] from rfl) (Reps.one (show Kd.M Kd.string _ _ _ (⟨#[33, 33, 98, 111, 111, 108]⟩ : ByteArray) [.string (⟨#[33, 33, 98, 111, 111, 108]⟩ : ByteArray)] from rfl) (Reps.one (show Kd.M Kd.string _ _ _ (⟨#[33, 33, 105, 110, 116]⟩ : ByteArray) [.string (⟨#[33, 33, 105, 110, 116]⟩ : ByteArray)] from rfl) (Reps.one (show Kd.M Kd.string _ _ _ (⟨#[33, 33, 102, 108, 111, 97, 116]⟩ : ByteArray) [.string (⟨#[33, 33, 102, 108, 111, 97, 116]⟩ : ByteArray)] from rfl) (Reps.one (show Kd.M Kd.string _ _ _ (⟨#[]⟩ : ByteArray) [.string (⟨#[]⟩ : ByteArray)] from rfl) (Reps.none _ _)))))))); intro v325 w29 ho30 hb hg_ hnew_; clear hg_ hnew_; (first | rw [← Ny324.out] at ho30 | (simp only [Int.reduceToNat] at ho30; rw [← Ny324.out] at ho30)); have n0_ := Aside0.mk (Kd.R_lower ho30 (below_size (by repeat (first | (with_reducible first | exact HB.out | apply below_alloc | apply pw_below_drewN | apply below_drew1) | exact HB.out)))); have n1_ := Aside0.mk (below_step (by repeat (first | (with_reducible first | exact HB.out | apply below_alloc | apply pw_below_drewN | apply below_drew1) | exact HB.out)) hb); clear HB; have HO326 := n0_; have HB := n1_; clear n0_ n1_; clear hb ho30; obtain ⟨Ao31, co31, eo31⟩ := Kd.R_slice HO326.out; subst eo31; have p327 : 0 ≤ (t319 : Int) := of_decide_eq_true (by first | (with_reducible assumption) | assumption); have q327 : t319 < (y324.length : Int) := of_decide_eq_true (by first | (with_reducible assumption) | assumption); obtain ⟨ad327, e327, hx327_0⟩ := Kd.at_string (Kd.R_reads' HO326.out).2.2 t319 p327 q327; cases e327; replace p327 := eq_true p327; replace q327 := eq_true q327))
              go_ret
              exact ⟨by first | rfl | (simp [errW_none, errW_some] <;> rfl) | (simp [*, errW_none, errW_some] <;> rfl), by repeat (first | (with_reducible first | exact HB.out | apply below_alloc | apply pw_below_drewN | apply below_drew1) | exact HB.out)⟩
          · rw [if_neg c22] at H
            exact absurd H (by simp)
        · rw [if_neg c21] at H
          exact absurd H (by simp)
    · rw [if_neg c9] at H
      have c9b0 : (a0.toList == ([33, 33, 102, 108, 111, 97, 116] : List UInt8)) = false := beq_eq_false_iff_ne.mpr c9
      have c9b1 : (a0.toList != ([33, 33, 102, 108, 111, 97, 116] : List UInt8)) = true := bne_iff_ne.mpr c9
      obtain ⟨y328, hy328⟩ : ∃ y_ : List ByteArray, y_ = (([(⟨#[]⟩ : ByteArray), (⟨#[33, 33, 110, 117, 108, 108]⟩ : ByteArray), (⟨#[33, 33, 98, 111, 111, 108]⟩ : ByteArray), (⟨#[33, 33, 105, 110, 116]⟩ : ByteArray), (⟨#[33, 33, 102, 108, 111, 97, 116]⟩ : ByteArray), (⟨#[]⟩ : ByteArray)] : List ByteArray)) := ⟨_, rfl⟩
      replace H : (if 0 ≤ t319 then (if t319 < (y328.length : Int) then (if (rdOf ByteArray.empty y328 t319).toList = a0.toList then (some t319) else (some 5)) else (none)) else (none)) = some r := by first | (rw [hy328]; with_reducible exact H) | (have H2_ := (Option.bind_some _ _).symm.trans H; rw [hy328]; with_reducible exact H2_) | (have H2_ := (Option.bind_some _ _).symm.trans H; with_reducible exact H2_) | with_reducible exact H | (rw [hy328]; exact H) | exact H
      have Ny328 := Aside0.mk hy328
      clear hy328
      by_cases c32 : 0 ≤ t319
      · rw [if_pos c32] at H
        have c32b0 : decide (0 ≤ t319) = true := decide_eq_true c32
        clear c32
        by_cases c33 : t319 < (y328.length : Int)
        · rw [if_pos c33] at H
          have c33b0 : decide (t319 < (y328.length : Int)) = true := decide_eq_true c33
          clear c33
          by_cases c34 : (rdOf ByteArray.empty y328 t319).toList = a0.toList
          · rw [if_pos c34] at H
            have c34b0 : ((rdOf ByteArray.empty y328 t319).toList == a0.toList) = true := beq_iff_eq.mpr c34
            have c34b1 : ((rdOf ByteArray.empty y328 t319).toList != a0.toList) = false := bne_eq_false_iff_eq.mpr c34
            clear c34
            obtain rfl := Option.some.inj H
            go_enter Try.func31, Try.ntmps31
            go_wp2_with (first | ((with_reducible refine gate_callee (f := 26) rfl ?_); refine goesL_ (some 10) rfl rfl Try.func26 (by kernel_rfl) rfl #[.string a1] rfl (by (try simp only [List.map_toArray, List.map_cons, List.map_nil]); first | done | rfl | (simp only [List.length_drop, List.length_take]; rfl) | (simp only [ByteArray.size_extract, Nat.min_self]; done) | (simp only [ByteArray.size_extract, Nat.min_self]; rfl)) ?_; (with_reducible refine (resolve_Kind.calls k a1 t319 _ A4.out).mono ?_); rintro e w35 ⟨rfl, hb⟩; refine ⟨_, rfl, ?_⟩; have n0_ := Aside0.mk (below_step (by repeat (first | (with_reducible first | exact HB.out | apply below_alloc | apply pw_below_drewN | apply below_drew1) | exact HB.out)) hb); clear HB; have HB := n0_; clear n0_; (try clear hb); (try clear hb2); (try clear hk); (try clear hi)) | ((with_reducible refine gate_dst (N := 20) rfl ?_); refine Kd.R_lit Kd.string _ 9 ?hg (N := 20) ?hd (xs := ([(⟨#[]⟩ : ByteArray), (⟨#[33, 33, 110, 117, 108, 108]⟩ : ByteArray), (⟨#[33, 33, 98, 111, 111, 108]⟩ : ByteArray), (⟨#[33, 33, 105, 110, 116]⟩ : ByteArray), (⟨#[33, 33, 102, 108, 111, 97, 116]⟩ : ByteArray), (⟨#[]⟩ : ByteArray)] : List ByteArray)) (inner := [.string (⟨#[]⟩ : ByteArray), .string (⟨#[33, 33, 110, 117, 108, 108]⟩ : ByteArray), .string (⟨#[33, 33, 98, 111, 111, 108]⟩ : ByteArray), .string (⟨#[33, 33, 105, 110, 116]⟩ : ByteArray), .string (⟨#[33, 33, 102, 108, 111, 97, 116]⟩ : ByteArray), .string (⟨#[]⟩ : ByteArray)]) (ok := fun _ => True) (okp := fun _ => True) ?hr ?hp (fun _ hk => hk) trivial (Below.refl _ _) (Nat.le_refl _) (by simp) ?_; (case hd => rfl); (case hg => rfl); (case hr => first | (go_simp; done) | (go_simp; rfl)); (case hp => exact (Reps.one (show Kd.M Kd.string _ _ _ (⟨#[]⟩ : ByteArray) [.string (⟨#[]⟩ : ByteArray)] from rfl) (Reps.one (show Kd.M Kd.string _ _ _ (⟨#[33, 33, 110, 117, 108, 108]⟩ : ByteArray) [.string (⟨#[33, 33, 110, 117, 108, 108]⟩ : ByteArray)] from rfl) (Reps.one (show Kd.M Kd.string _ _ _ (⟨#[33, 33, 98, 111, 111, 108]⟩ : ByteArray) [.string (⟨#[33, 33, 98, 111, 111, 108]⟩ : ByteArray)] from rfl) (Reps.one (show Kd.M Kd.string _ _ _ (⟨#[33, 33, 105, 110, 116]⟩ : ByteArray) [.string (⟨#[33, 33, 105, 110, 116]⟩ : ByteArray)] from rfl) (Reps.one (show Kd.M Kd.string _ _ _ (⟨#[33, 33, 102, 108, 111, 97, 116]⟩ : ByteArray) [.string (⟨#[33, 33, 102, 108, 111, 97, 116]⟩ : ByteArray)] from rfl) (Reps.one (show Kd.M Kd.string _ _ _ (⟨#[]⟩ : ByteArray) [.string (⟨#[]⟩ : ByteArray)] from rfl) (Reps.none _ _)))))))); intro v329 w36 ho37 hb hg_ hnew_; clear hg_ hnew_; (first | rw [← Ny328.out] at ho37 | (simp only [Int.reduceToNat] at ho37; rw [← Ny328.out] at ho37)); have n0_ := Aside0.mk (Kd.R_lower ho37 (below_size (by repeat (first | (with_reducible first | exact HB.out | apply below_alloc | apply pw_below_drewN | apply below_drew1) | exact HB.out)))); have n1_ := Aside0.mk (below_step (by repeat (first | (with_reducible first | exact HB.out | apply below_alloc | apply pw_below_drewN | apply below_drew1) | exact HB.out)) hb); clear HB; have HO330 := n0_; have HB := n1_; clear n0_ n1_; clear hb ho37; obtain ⟨Ao38, co38, eo38⟩ := Kd.R_slice HO330.out; subst eo38; have p331 : 0 ≤ (t319 : Int) := of_decide_eq_true (by first | (with_reducible assumption) | assumption); have q331 : t319 < (y328.length : Int) := of_decide_eq_true (by first | (with_reducible assumption) | assumption); obtain ⟨ad331, e331, hx331_0⟩ := Kd.at_string (Kd.R_reads' HO330.out).2.2 t319 p331 q331; cases e331; replace p331 := eq_true p331; replace q331 := eq_true q331))
            go_ret
            exact ⟨by first | rfl | (simp [errW_none, errW_some] <;> rfl) | (simp [*, errW_none, errW_some] <;> rfl), by repeat (first | (with_reducible first | exact HB.out | apply below_alloc | apply pw_below_drewN | apply below_drew1) | exact HB.out)⟩
          · rw [if_neg c34] at H
            have c34b0 : ((rdOf ByteArray.empty y328 t319).toList == a0.toList) = false := beq_eq_false_iff_ne.mpr c34
            have c34b1 : ((rdOf ByteArray.empty y328 t319).toList != a0.toList) = true := bne_iff_ne.mpr c34
            obtain rfl := Option.some.inj H
            go_enter Try.func31, Try.ntmps31
            go_wp2_with (first | ((with_reducible refine gate_callee (f := 26) rfl ?_); refine goesL_ (some 10) rfl rfl Try.func26 (by kernel_rfl) rfl #[.string a1] rfl (by (try simp only [List.map_toArray, List.map_cons, List.map_nil]); first | done | rfl | (simp only [List.length_drop, List.length_take]; rfl) | (simp only [ByteArray.size_extract, Nat.min_self]; done) | (simp only [ByteArray.size_extract, Nat.min_self]; rfl)) ?_; (with_reducible refine (resolve_Kind.calls k a1 t319 _ A4.out).mono ?_); rintro e w39 ⟨rfl, hb⟩; refine ⟨_, rfl, ?_⟩; have n0_ := Aside0.mk (below_step (by repeat (first | (with_reducible first | exact HB.out | apply below_alloc | apply pw_below_drewN | apply below_drew1) | exact HB.out)) hb); clear HB; have HB := n0_; clear n0_; (try clear hb); (try clear hb2); (try clear hk); (try clear hi)) | ((with_reducible refine gate_dst (N := 20) rfl ?_); refine Kd.R_lit Kd.string _ 9 ?hg (N := 20) ?hd (xs := ([(⟨#[]⟩ : ByteArray), (⟨#[33, 33, 110, 117, 108, 108]⟩ : ByteArray), (⟨#[33, 33, 98, 111, 111, 108]⟩ : ByteArray), (⟨#[33, 33, 105, 110, 116]⟩ : ByteArray), (⟨#[33, 33, 102, 108, 111, 97, 116]⟩ : ByteArray), (⟨#[]⟩ : ByteArray)] : List ByteArray)) (inner := [.string (⟨#[]⟩ : ByteArray), .string (⟨#[33, 33, 110, 117, 108, 108]⟩ : ByteArray), .string (⟨#[33, 33, 98, 111, 111, 108]⟩ : ByteArray), .string (⟨#[33, 33, 105, 110, 116]⟩ : ByteArray), .string (⟨#[33, 33, 102, 108, 111, 97, 116]⟩ : ByteArray), .string (⟨#[]⟩ : ByteArray)]) (ok := fun _ => True) (okp := fun _ => True) ?hr ?hp (fun _ hk => hk) trivial (Below.refl _ _) (Nat.le_refl _) (by simp) ?_; (case hd => rfl); (case hg => rfl); (case hr => first | (go_simp; done) | (go_simp; rfl)); (case hp => exact (Reps.one (show Kd.M Kd.string _ _ _ (⟨#[]⟩ : ByteArray) [.string (⟨#[]⟩ : ByteArray)] from rfl) (Reps.one (show Kd.M Kd.string _ _ _ (⟨#[33, 33, 110, 117, 108, 108]⟩ : ByteArray) [.string (⟨#[33, 33, 110, 117, 108, 108]⟩ : ByteArray)] from rfl) (Reps.one (show Kd.M Kd.string _ _ _ (⟨#[33, 33, 98, 111, 111, 108]⟩ : ByteArray) [.string (⟨#[33, 33, 98, 111, 111, 108]⟩ : ByteArray)] from rfl) (Reps.one (show Kd.M Kd.string _ _ _ (⟨#[33, 33, 105, 110, 116]⟩ : ByteArray) [.string (⟨#[33, 33, 105, 110, 116]⟩ : ByteArray)] from rfl) (Reps.one (show Kd.M Kd.string _ _ _ (⟨#[33, 33, 102, 108, 111, 97, 116]⟩ : ByteArray) [.string (⟨#[33, 33, 102, 108, 111, 97, 116]⟩ : ByteArray)] from rfl) (Reps.one (show Kd.M Kd.string _ _ _ (⟨#[]⟩ : ByteArray) [.string (⟨#[]⟩ : ByteArray)] from rfl) (Reps.none _ _)))))))); intro v329 w40 ho41 hb hg_ hnew_; clear hg_ hnew_; (first | rw [← Ny328.out] at ho41 | (simp only [Int.reduceToNat] at ho41; rw [← Ny328.out] at ho41)); have n0_ := Aside0.mk (Kd.R_lower ho41 (below_size (by repeat (first | (with_reducible first | exact HB.out | apply below_alloc | apply pw_below_drewN | apply below_drew1) | exact HB.out)))); have n1_ := Aside0.mk (below_step (by repeat (first | (with_reducible first | exact HB.out | apply below_alloc | apply pw_below_drewN | apply below_drew1) | exact HB.out)) hb); clear HB; have HO330 := n0_; have HB := n1_; clear n0_ n1_; clear hb ho41; obtain ⟨Ao42, co42, eo42⟩ := Kd.R_slice HO330.out; subst eo42; have p331 : 0 ≤ (t319 : Int) := of_decide_eq_true (by first | (with_reducible assumption) | assumption); have q331 : t319 < (y328.length : Int) := of_decide_eq_true (by first | (with_reducible assumption) | assumption); obtain ⟨ad331, e331, hx331_0⟩ := Kd.at_string (Kd.R_reads' HO330.out).2.2 t319 p331 q331; cases e331; replace p331 := eq_true p331; replace q331 := eq_true q331))
            go_ret
            exact ⟨by first | rfl | (simp [errW_none, errW_some] <;> rfl) | (simp [*, errW_none, errW_some] <;> rfl), by repeat (first | (with_reducible first | exact HB.out | apply below_alloc | apply pw_below_drewN | apply below_drew1) | exact HB.out)⟩
        · rw [if_neg c33] at H
          exact absurd H (by simp)
      · rw [if_neg c32] at H
        exact absurd H (by simp)

end Go.Proofs.Ytpigemgiegbblaa.Q
