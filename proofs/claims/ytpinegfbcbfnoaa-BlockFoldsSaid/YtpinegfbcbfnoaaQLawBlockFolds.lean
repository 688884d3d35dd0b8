/- Proved here, in the forms of the print's contracts: what each Go function answers, and the rows of the laws over it; by a program and by hand. -/
import Derived.Test.YtpinegfbcbfnoaaQ0
import Derived.Test.YtpinegfbcbfnoaaQblock
import Derived.Test.YtpinegfbcbfnoaaQcorrectorlaw8
namespace Go.Proofs.Ytpinegfbcbfnoaa.Q
open Go.RowKit Go.Proofs.YtpinegfbcbfnoaaW.PrintWords Go.Proofs.YtpinegfbcbfnoaaW.PrintLast Go.Proofs.YtpinegfbcbfnoaaW.PrintMore
attribute [local go_sem] max2_int min2_int max_two min_two max_three min_three max_four min_four   -- for this text's walks alone
set_option linter.unusedVariables false
set_option linter.unusedSimpArgs false

/-! ### correctorlaw8_BlockFolds: function 4 -/
mutual
def correctorlaw8_BlockFolds.j0 : Nat → List ByteArray → List Int → Bool → Option (Bool)
  | 0, _, _, _ => none
  | k + 1, x0, x1, x19 => if x19 = true then (some true) else (correctorlaw8_BlockFolds.l0 k x0 x1 ([] : List ByteArray) (⟨#[]⟩ : ByteArray) 0)
def correctorlaw8_BlockFolds.l0 : Nat → List ByteArray → List Int → List ByteArray → ByteArray → Int → Option (Bool)
  | 0, _, _, _, _, _ => none
  | k + 1, x0, x1, x5, x6, x7 => if x7 < (x0.length : Int) then (if 0 ≤ x7 then (if (rdOf ByteArray.empty x0 x7).toList = ([] : List UInt8) then (correctorlaw8_BlockFolds.j2 k x0 x1 x5 x6 x7 true) else (if ((rdOf ByteArray.empty x0 x7).size : Int) > 30 then (correctorlaw8_BlockFolds.j2 k x0 x1 x5 x6 x7 true) else ((correctorlaw8_letters.f k (rdOf ByteArray.empty x0 x7)).bind fun t197 => (correctorlaw8_BlockFolds.j2 k x0 x1 x5 x6 x7 (!t197))))) else (none)) else ((block_Text.f k (⟨#[62, 45]⟩ : ByteArray) x5).bind fun t192 => (if t192.toList = x6.toList then ((block_Text.f k (⟨#[62]⟩ : ByteArray) x5).bind fun t193 => (if x6.size + 1 ≤ 9223372036854775807 then (some (t193.toList == (x6 ++ (⟨#[10]⟩ : ByteArray)).toList)) else (none))) else (some false)))
def correctorlaw8_BlockFolds.j2 : Nat → List ByteArray → List Int → List ByteArray → ByteArray → Int → Bool → Option (Bool)
  | 0, _, _, _, _, _, _ => none
  | k + 1, x0, x1, x5, x6, x7, x46 => if x46 = true then (some true) else (if x7 < (x1.length : Int) then (correctorlaw8_BlockFolds.j3 k x0 x1 x5 x6 x7 0 (decide (x7 > 0))) else (correctorlaw8_BlockFolds.j3 k x0 x1 x5 x6 x7 0 false))
def correctorlaw8_BlockFolds.j3 : Nat → List ByteArray → List Int → List ByteArray → ByteArray → Int → Int → Bool → Option (Bool)
  | 0, _, _, _, _, _, _, _ => none
  | k + 1, x0, x1, x5, x6, x7, x8, x54 => if x54 = true then (if 0 ≤ x7 then (if x7 < (x1.length : Int) then ((correctorlaw8_within.f (rd x1 x7) 3).bind fun t199 => (correctorlaw8_BlockFolds.j4 k x0 x1 x5 x6 x7 t199)) else (none)) else (none)) else (correctorlaw8_BlockFolds.j4 k x0 x1 x5 x6 x7 x8)
def correctorlaw8_BlockFolds.j4 : Nat → List ByteArray → List Int → List ByteArray → ByteArray → Int → Int → Option (Bool)
  | 0, _, _, _, _, _, _ => none
  | k + 1, x0, x1, x5, x6, x7, x8 => correctorlaw8_BlockFolds.l1 k x0 x1 x5 x6 x7 x8 0
def correctorlaw8_BlockFolds.l1 : Nat → List ByteArray → List Int → List ByteArray → ByteArray → Int → Int → Int → Option (Bool)
  | 0, _, _, _, _, _, _, _ => none
  | k + 1, x0, x1, x5, x6, x7, x8, x9 => if x9 < x8 then (if x5.length < 8796093022208 then (if x6.size + 1 ≤ 9223372036854775807 then (correctorlaw8_BlockFolds.l1 k x0 x1 (x5 ++ [(⟨#[10]⟩ : ByteArray)]) (x6 ++ (⟨#[10]⟩ : ByteArray)) x7 x8 (wrap64 (x9 + 1))) else (none)) else (none)) else (if x7 > 0 then (if x8 = 0 then (if x6.size + 1 ≤ 9223372036854775807 then (if 0 ≤ x7 then (if x7 < (x0.length : Int) then (if 2 + (rdOf ByteArray.empty x0 x7).size ≤ 9223372036854775807 then (if ((⟨#[32, 32]⟩ : ByteArray) ++ (rdOf ByteArray.empty x0 x7)).size + 1 ≤ 9223372036854775807 then (if x5.length < 8796093022208 then (if (x6 ++ (⟨#[32]⟩ : ByteArray)).size + (rdOf ByteArray.empty x0 x7).size ≤ 9223372036854775807 then (correctorlaw8_BlockFolds.l0 k x0 x1 (x5 ++ [((⟨#[32, 32]⟩ : ByteArray) ++ (rdOf ByteArray.empty x0 x7)) ++ (⟨#[10]⟩ : ByteArray)]) ((x6 ++ (⟨#[32]⟩ : ByteArray)) ++ (rdOf ByteArray.empty x0 x7)) (wrap64 (x7 + 1))) else (none)) else (none)) else (none)) else (none)) else (none)) else (none)) else (none)) else (if 0 ≤ x7 then (if x7 < (x0.length : Int) then (if 2 + (rdOf ByteArray.empty x0 x7).size ≤ 9223372036854775807 then (if ((⟨#[32, 32]⟩ : ByteArray) ++ (rdOf ByteArray.empty x0 x7)).size + 1 ≤ 9223372036854775807 then (if x5.length < 8796093022208 then (if x6.size + (rdOf ByteArray.empty x0 x7).size ≤ 9223372036854775807 then (correctorlaw8_BlockFolds.l0 k x0 x1 (x5 ++ [((⟨#[32, 32]⟩ : ByteArray) ++ (rdOf ByteArray.empty x0 x7)) ++ (⟨#[10]⟩ : ByteArray)]) (x6 ++ (rdOf ByteArray.empty x0 x7)) (wrap64 (x7 + 1))) else (none)) else (none)) else (none)) else (none)) else (none)) else (none))) else (if 0 ≤ x7 then (if x7 < (x0.length : Int) then (if 2 + (rdOf ByteArray.empty x0 x7).size ≤ 9223372036854775807 then (if ((⟨#[32, 32]⟩ : ByteArray) ++ (rdOf ByteArray.empty x0 x7)).size + 1 ≤ 9223372036854775807 then (if x5.length < 8796093022208 then (if x6.size + (rdOf ByteArray.empty x0 x7).size ≤ 9223372036854775807 then (correctorlaw8_BlockFolds.l0 k x0 x1 (x5 ++ [((⟨#[32, 32]⟩ : ByteArray) ++ (rdOf ByteArray.empty x0 x7)) ++ (⟨#[10]⟩ : ByteArray)]) (x6 ++ (rdOf ByteArray.empty x0 x7)) (wrap64 (x7 + 1))) else (none)) else (none)) else (none)) else (none)) else (none)) else (none)))
end
def correctorlaw8_BlockFolds.f (k : Nat) (l0 : List ByteArray) (l1 : List Int) : Option (Bool) := (correctorlaw8_known.f k).bind fun t191 => (if t191 = true then (if (l0.length : Int) = 0 then (correctorlaw8_BlockFolds.j0 k l0 l1 true) else (correctorlaw8_BlockFolds.j0 k l0 l1 (decide ((l0.length : Int) > 12)))) else (some false))
theorem correctorlaw8_BlockFolds.mono_l : ∀ k, (∀ y0 y1 y2, LeO (correctorlaw8_BlockFolds.j0 k y0 y1 y2) (correctorlaw8_BlockFolds.j0 (k + 1) y0 y1 y2)) ∧ (∀ y0 y1 y2 y3 y4, LeO (correctorlaw8_BlockFolds.l0 k y0 y1 y2 y3 y4) (correctorlaw8_BlockFolds.l0 (k + 1) y0 y1 y2 y3 y4)) ∧ (∀ y0 y1 y2 y3 y4 y5, LeO (correctorlaw8_BlockFolds.j2 k y0 y1 y2 y3 y4 y5) (correctorlaw8_BlockFolds.j2 (k + 1) y0 y1 y2 y3 y4 y5)) ∧ (∀ y0 y1 y2 y3 y4 y5 y6, LeO (correctorlaw8_BlockFolds.j3 k y0 y1 y2 y3 y4 y5 y6) (correctorlaw8_BlockFolds.j3 (k + 1) y0 y1 y2 y3 y4 y5 y6)) ∧ (∀ y0 y1 y2 y3 y4 y5, LeO (correctorlaw8_BlockFolds.j4 k y0 y1 y2 y3 y4 y5) (correctorlaw8_BlockFolds.j4 (k + 1) y0 y1 y2 y3 y4 y5)) ∧ (∀ y0 y1 y2 y3 y4 y5 y6, LeO (correctorlaw8_BlockFolds.l1 k y0 y1 y2 y3 y4 y5 y6) (correctorlaw8_BlockFolds.l1 (k + 1) y0 y1 y2 y3 y4 y5 y6))
  | 0 => ⟨fun _ _ _ r h => by simp [correctorlaw8_BlockFolds.j0] at h, fun _ _ _ _ _ r h => by simp [correctorlaw8_BlockFolds.l0] at h, fun _ _ _ _ _ _ r h => by simp [correctorlaw8_BlockFolds.j2] at h, fun _ _ _ _ _ _ _ r h => by simp [correctorlaw8_BlockFolds.j3] at h, fun _ _ _ _ _ _ r h => by simp [correctorlaw8_BlockFolds.j4] at h, fun _ _ _ _ _ _ _ r h => by simp [correctorlaw8_BlockFolds.l1] at h⟩
  | k + 1 => by
    obtain ⟨ih0, ih1, ih2, ih3, ih4, ih5⟩ := correctorlaw8_BlockFolds.mono_l k
    refine ⟨?_, ?_, ?_, ?_, ?_, ?_⟩
    · intro y0 y1 y2
      unfold correctorlaw8_BlockFolds.j0
      repeat' first
      | (with_reducible exact ih0 _ _ _)
      | (with_reducible exact ih1 _ _ _ _ _)
      | (with_reducible exact ih2 _ _ _ _ _ _)
      | (with_reducible exact ih3 _ _ _ _ _ _ _)
      | (with_reducible exact ih4 _ _ _ _ _ _)
      | (with_reducible exact ih5 _ _ _ _ _ _ _)
      | (with_reducible exact block_Text.mono _ _ _)
      | (with_reducible exact correctorlaw8_known.mono _)
      | (with_reducible exact correctorlaw8_letters.mono _ _)
      | (with_reducible exact LeO.refl _)
      | (with_reducible exact LeO.none _)
      | (with_reducible refine LeO.ite ?_ ?_)
      | (with_reducible refine LeO.bind ?_ (fun _ => ?_))
      | exact ih0 _ _ _
      | exact ih1 _ _ _ _ _
      | exact ih2 _ _ _ _ _ _
      | exact ih3 _ _ _ _ _ _ _
      | exact ih4 _ _ _ _ _ _
      | exact ih5 _ _ _ _ _ _ _
      | exact block_Text.mono _ _ _
      | exact correctorlaw8_known.mono _
      | exact correctorlaw8_letters.mono _ _
      | exact LeO.none _
      | refine LeO.ite ?_ ?_
      | refine LeO.bind ?_ (fun _ => ?_)
    · intro y0 y1 y2 y3 y4
      unfold correctorlaw8_BlockFolds.l0
      repeat' first
      | (with_reducible exact ih0 _ _ _)
      | (with_reducible exact ih1 _ _ _ _ _)
      | (with_reducible exact ih2 _ _ _ _ _ _)
      | (with_reducible exact ih3 _ _ _ _ _ _ _)
      | (with_reducible exact ih4 _ _ _ _ _ _)
      | (with_reducible exact ih5 _ _ _ _ _ _ _)
      | (with_reducible exact block_Text.mono _ _ _)
      | (with_reducible exact correctorlaw8_known.mono _)
      | (with_reducible exact correctorlaw8_letters.mono _ _)
      | (with_reducible exact LeO.refl _)
      | (with_reducible exact LeO.none _)
      | (with_reducible refine LeO.ite ?_ ?_)
      | (with_reducible refine LeO.bind ?_ (fun _ => ?_))
      | exact ih0 _ _ _
      | exact ih1 _ _ _ _ _
      | exact ih2 _ _ _ _ _ _
      | exact ih3 _ _ _ _ _ _ _
      | exact ih4 _ _ _ _ _ _
      | exact ih5 _ _ _ _ _ _ _
      | exact block_Text.mono _ _ _
      | exact correctorlaw8_known.mono _
      | exact correctorlaw8_letters.mono _ _
      | exact LeO.none _
      | refine LeO.ite ?_ ?_
      | refine LeO.bind ?_ (fun _ => ?_)
    · intro y0 y1 y2 y3 y4 y5
      unfold correctorlaw8_BlockFolds.j2
      repeat' first
      | (with_reducible exact ih0 _ _ _)
      | (with_reducible exact ih1 _ _ _ _ _)
      | (with_reducible exact ih2 _ _ _ _ _ _)
      | (with_reducible exact ih3 _ _ _ _ _ _ _)
      | (with_reducible exact ih4 _ _ _ _ _ _)
      | (with_reducible exact ih5 _ _ _ _ _ _ _)
      | (with_reducible exact block_Text.mono _ _ _)
      | (with_reducible exact correctorlaw8_known.mono _)
      | (with_reducible exact correctorlaw8_letters.mono _ _)
      | (with_reducible exact LeO.refl _)
      | (with_reducible exact LeO.none _)
      | (with_reducible refine LeO.ite ?_ ?_)
      | (with_reducible refine LeO.bind ?_ (fun _ => ?_))
      | exact ih0 _ _ _
      | exact ih1 _ _ _ _ _
      | exact ih2 _ _ _ _ _ _
      | exact ih3 _ _ _ _ _ _ _
      | exact ih4 _ _ _ _ _ _
      | exact ih5 _ _ _ _ _ _ _
      | exact block_Text.mono _ _ _
      | exact correctorlaw8_known.mono _
      | exact correctorlaw8_letters.mono _ _
      | exact LeO.none _
      | refine LeO.ite ?_ ?_
      | refine LeO.bind ?_ (fun _ => ?_)
    · intro y0 y1 y2 y3 y4 y5 y6
      unfold correctorlaw8_BlockFolds.j3
      repeat' first
      | (with_reducible exact ih0 _ _ _)
      | (with_reducible exact ih1 _ _ _ _ _)
      | (with_reducible exact ih2 _ _ _ _ _ _)
      | (with_reducible exact ih3 _ _ _ _ _ _ _)
      | (with_reducible exact ih4 _ _ _ _ _ _)
      | (with_reducible exact ih5 _ _ _ _ _ _ _)
      | (with_reducible exact block_Text.mono _ _ _)
      | (with_reducible exact correctorlaw8_known.mono _)
      | (with_reducible exact correctorlaw8_letters.mono _ _)
      | (with_reducible exact LeO.refl _)
      | (with_reducible exact LeO.none _)
      | (with_reducible refine LeO.ite ?_ ?_)
      | (with_reducible refine LeO.bind ?_ (fun _ => ?_))
      | exact ih0 _ _ _
      | exact ih1 _ _ _ _ _
      | exact ih2 _ _ _ _ _ _
      | exact ih3 _ _ _ _ _ _ _
      | exact ih4 _ _ _ _ _ _
      | exact ih5 _ _ _ _ _ _ _
      | exact block_Text.mono _ _ _
      | exact correctorlaw8_known.mono _
      | exact correctorlaw8_letters.mono _ _
      | exact LeO.none _
      | refine LeO.ite ?_ ?_
      | refine LeO.bind ?_ (fun _ => ?_)
    · intro y0 y1 y2 y3 y4 y5
      unfold correctorlaw8_BlockFolds.j4
      repeat' first
      | (with_reducible exact ih0 _ _ _)
      | (with_reducible exact ih1 _ _ _ _ _)
      | (with_reducible exact ih2 _ _ _ _ _ _)
      | (with_reducible exact ih3 _ _ _ _ _ _ _)
      | (with_reducible exact ih4 _ _ _ _ _ _)
      | (with_reducible exact ih5 _ _ _ _ _ _ _)
      | (with_reducible exact block_Text.mono _ _ _)
      | (with_reducible exact correctorlaw8_known.mono _)
      | (with_reducible exact correctorlaw8_letters.mono _ _)
      | (with_reducible exact LeO.refl _)
      | (with_reducible exact LeO.none _)
      | (with_reducible refine LeO.ite ?_ ?_)
      | (with_reducible refine LeO.bind ?_ (fun _ => ?_))
      | exact ih0 _ _ _
      | exact ih1 _ _ _ _ _
      | exact ih2 _ _ _ _ _ _
      | exact ih3 _ _ _ _ _ _ _
      | exact ih4 _ _ _ _ _ _
      | exact ih5 _ _ _ _ _ _ _
      | exact block_Text.mono _ _ _
      | exact correctorlaw8_known.mono _
      | exact correctorlaw8_letters.mono _ _
      | exact LeO.none _
      | refine LeO.ite ?_ ?_
      | refine LeO.bind ?_ (fun _ => ?_)
    · intro y0 y1 y2 y3 y4 y5 y6
      unfold correctorlaw8_BlockFolds.l1
      repeat' first
      | (with_reducible exact ih0 _ _ _)
      | (with_reducible exact ih1 _ _ _ _ _)
      | (with_reducible exact ih2 _ _ _ _ _ _)
      | (with_reducible exact ih3 _ _ _ _ _ _ _)
      | (with_reducible exact ih4 _ _ _ _ _ _)
      | (with_reducible exact ih5 _ _ _ _ _ _ _)
      | (with_reducible exact block_Text.mono _ _ _)
      | (with_reducible exact correctorlaw8_known.mono _)
      | (with_reducible exact correctorlaw8_letters.mono _ _)
      | (with_reducible exact LeO.refl _)
      | (with_reducible exact LeO.none _)
      | (with_reducible refine LeO.ite ?_ ?_)
      | (with_reducible refine LeO.bind ?_ (fun _ => ?_))
      | exact ih0 _ _ _
      | exact ih1 _ _ _ _ _
      | exact ih2 _ _ _ _ _ _
      | exact ih3 _ _ _ _ _ _ _
      | exact ih4 _ _ _ _ _ _
      | exact ih5 _ _ _ _ _ _ _
      | exact block_Text.mono _ _ _
      | exact correctorlaw8_known.mono _
      | exact correctorlaw8_letters.mono _ _
      | exact LeO.none _
      | refine LeO.ite ?_ ?_
      | refine LeO.bind ?_ (fun _ => ?_)
theorem correctorlaw8_BlockFolds.mono : ∀ a0 a1 k, LeO (correctorlaw8_BlockFolds.f k a0 a1) (correctorlaw8_BlockFolds.f (k + 1) a0 a1) := by
  intro a0 a1 k
  obtain ⟨ih0, ih1, ih2, ih3, ih4, ih5⟩ := correctorlaw8_BlockFolds.mono_l k
  unfold correctorlaw8_BlockFolds.f
  repeat' first
      | (with_reducible exact ih0 _ _ _)
      | (with_reducible exact ih1 _ _ _ _ _)
      | (with_reducible exact ih2 _ _ _ _ _ _)
      | (with_reducible exact ih3 _ _ _ _ _ _ _)
      | (with_reducible exact ih4 _ _ _ _ _ _)
      | (with_reducible exact ih5 _ _ _ _ _ _ _)
      | (with_reducible exact block_Text.mono _ _ _)
      | (with_reducible exact correctorlaw8_known.mono _)
      | (with_reducible exact correctorlaw8_letters.mono _ _)
      | (with_reducible exact LeO.refl _)
      | (with_reducible exact LeO.none _)
      | (with_reducible refine LeO.ite ?_ ?_)
      | (with_reducible refine LeO.bind ?_ (fun _ => ?_))
      | exact ih0 _ _ _
      | exact ih1 _ _ _ _ _
      | exact ih2 _ _ _ _ _ _
      | exact ih3 _ _ _ _ _ _ _
      | exact ih4 _ _ _ _ _ _
      | exact ih5 _ _ _ _ _ _ _
      | exact block_Text.mono _ _ _
      | exact correctorlaw8_known.mono _
      | exact correctorlaw8_letters.mono _ _
      | exact LeO.none _
      | refine LeO.ite ?_ ?_
      | refine LeO.bind ?_ (fun _ => ?_)
set_option maxHeartbeats 8000000 in
set_option maxRecDepth 100000 in
theorem correctorlaw8_BlockFolds.calls (k : Nat) (A0 : Option Addr) (c0 : Nat) (l0 : List ByteArray) (A1 : Option Addr) (c1 : Nat) (l1 : List Int) (r : Bool) (w : World) (hr0 : Kd.C Kd.string w A0 l0.length l0) (hc0 : l0.length ≤ c0) (hr1 : Kd.C (Kd.int .i64) w A1 l1.length l1) (hc1 : l1.length ≤ c1) (h : correctorlaw8_BlockFolds.f k l0 l1 = some r) :
    Calls Try.prog 4 #[.slice A0 l0.length c0, .slice A1 l1.length c1] w fun e w' => e = .returned (.bool r) ∧ Below w.heap.size w w' := by
  have HR0 := Aside0.mk hr0
  have HC0 := Aside0.mk hc0
  clear hr0 hc0
  have HR1 := Aside0.mk hr1
  have HC1 := Aside0.mk hc1
  clear hr1 hc1
  have HB := Aside0.mk (Below.refl w.heap.size w)
  have H : ((correctorlaw8_known.f k).bind fun t191 => (if t191 = true then (if (l0.length : Int) = 0 then (correctorlaw8_BlockFolds.j0 k l0 l1 true) else (correctorlaw8_BlockFolds.j0 k l0 l1 (decide ((l0.length : Int) > 12)))) else (some false))) = some r := h
  clear h
  replace H := Option.bind_eq_some_iff.mp H
  obtain ⟨t191, A30, H⟩ := H
  replace H : (if t191 = true then (if (l0.length : Int) = 0 then (correctorlaw8_BlockFolds.j0 k l0 l1 true) else (correctorlaw8_BlockFolds.j0 k l0 l1 (decide ((l0.length : Int) > 12)))) else (some false)) = some r := H
  have A3 := Aside0.mk A30
  clear A30
  by_cases c4 : t191 = true
  · subst c4
    have H1 : (if (l0.length : Int) = 0 then (correctorlaw8_BlockFolds.j0 k l0 l1 true) else (correctorlaw8_BlockFolds.j0 k l0 l1 (decide ((l0.length : Int) > 12)))) = some r := by rw [if_pos rfl] at H; exact H
    clear H
    have H := H1
    clear H1
    have HC5 := Aside0.mk H
    clear H
    go_enter Try.func4, Try.ntmps4
    go_upto_region 3 with (first | ((with_reducible refine gate_callee (f := 8) rfl ?_); refine goesL_ (some 10) rfl rfl Try.func8 (by kernel_rfl) rfl #[] rfl (by (try simp only [List.map_toArray, List.map_cons, List.map_nil]); first | done | rfl | (simp only [List.length_drop, List.length_take]; rfl) | (simp only [ByteArray.size_extract, Nat.min_self]; done) | (simp only [ByteArray.size_extract, Nat.min_self]; rfl)) ?_; (with_reducible refine (correctorlaw8_known.calls k  true _ A3.out).mono ?_); rintro e w6 ⟨rfl, hb⟩; refine ⟨_, rfl, ?_⟩; have n0_ := Aside0.mk (below_step (by repeat (first | (with_reducible first | exact HB.out | apply below_alloc | apply pw_below_drewN | apply below_drew1) | exact HB.out)) hb); clear HB; have HB := n0_; clear n0_; (try clear hb); (try clear hb2); (try clear hk); (try clear hi)))
    (try simp only [Act.put, List.setIfInBounds_toArray, List.set_cons_zero, List.set_cons_succ])
    go_cut [19] (fun v19 wc => ∃ (kq : Nat) (x19_4 : Bool), v19 = .bool x19_4 ∧ Aside0 (correctorlaw8_BlockFolds.j0 kq l0 l1 x19_4 = some r) ∧ Aside0 (kq ≤ k) ∧ Aside0 (Below w.heap.size w wc))
    case first =>
      have H := HC5.out
      clear HC5
      by_cases c7 : (l0.length : Int) = 0
      · rw [if_pos c7] at H
        have c7b0 : ((l0.length : Int) == 0) = true := beq_iff_eq.mpr c7
        have c7b1 : ((l0.length : Int) != 0) = false := bne_eq_false_iff_eq.mpr c7
        clear c7
        (first | rw [c7b0] | (simp only [i64_w, i32_w]; rw [c7b0]) | rw [c7b1] | skip)
        have H' := Aside0.mk H
        clear H
        go_wp2
        go_meet
        case rel => exact ⟨_, (true), (by first | rfl | (simp; done) | (simp [*]; done)), H', ⟨by first | omega | exact Nat.le_refl _⟩, ⟨by repeat (first | (with_reducible first | exact HB.out | apply below_alloc | apply pw_below_drewN | apply below_drew1) | exact HB.out)⟩⟩
      · rw [if_neg c7] at H
        have c7b0 : ((l0.length : Int) == 0) = false := beq_eq_false_iff_ne.mpr c7
        have c7b1 : ((l0.length : Int) != 0) = true := bne_iff_ne.mpr c7
        have c7b2 : ¬ (l0 = []) := fun h_ => c7 (by rw [h_]; rfl)
        (first | rw [c7b0] | (simp only [i64_w, i32_w]; rw [c7b0]) | rw [c7b1] | skip)
        have H' := Aside0.mk H
        clear H
        go_wp2
        go_meet
        case rel => exact ⟨_, (decide ((l0.length : Int) > 12)), (by first | rfl | (simp; done) | (simp [*]; done)), H', ⟨by first | omega | exact Nat.le_refl _⟩, ⟨by repeat (first | (with_reducible first | exact HB.out | apply below_alloc | apply pw_below_drewN | apply below_drew1) | exact HB.out)⟩⟩
    case rest =>
      clear HC5
      try clear c1
      try clear p2
      try clear c4
      try clear c7
      try clear c7b0
      try clear c7b1
      try clear c7b2
      obtain ⟨kq, x19_4, rfl, HA, HJ4, HB⟩ := hcut
      cases kq with
      | zero => exact absurd HA.out (by simp [correctorlaw8_BlockFolds.j0])
      | succ kj4 =>
        have H := HA.out
        clear HA
        simp only [correctorlaw8_BlockFolds.j0] at H
        by_cases c8 : x19_4 = true
        · subst c8
          have H1 : (some true) = some r := by rw [if_pos rfl] at H; exact H
          clear H
          have H := H1
          clear H1
          obtain rfl := Option.some.inj H
          go_wp2
          go_ret
          exact ⟨by first | rfl | (simp [errW_none, errW_some] <;> rfl) | (simp [*, errW_none, errW_some] <;> rfl), by repeat (first | (with_reducible first | exact HB.out | apply below_alloc | apply pw_below_drewN | apply below_drew1) | exact HB.out)⟩
        · replace c8 := Bool.eq_false_iff.mpr c8
          subst c8
          have H1 : (correctorlaw8_BlockFolds.l0 kj4 l0 l1 ([] : List ByteArray) (⟨#[]⟩ : ByteArray) 0) = some r := by rw [if_neg (show ¬ (false = true) by decide)] at H; exact H
          clear H
          have H := H1
          clear H1
          have H' := Aside0.mk H
          clear H
          go_wp2
          go_loopg [5, 6, 7] kj4 (fun kq v5 v6 v7 w' => ∃ (x5_2 : List ByteArray) (x6_2 : ByteArray) (x7_2 : Int), v6 = .string x6_2 ∧ v7 = .int .i64 x7_2 ∧ Aside0 (correctorlaw8_BlockFolds.l0 kq l0 l1 x5_2 x6_2 x7_2 = some r) ∧ Aside0 (kq ≤ kj4) ∧ Aside0 (Kd.R Kd.string 9 w' w.heap.size (fun _ => True) v5 x5_2) ∧ Aside0 (Below w.heap.size w w'))
          case atStart => exact ⟨(([] : List ByteArray)), ((⟨#[]⟩ : ByteArray)), (0), (by first | rfl | (simp; done) | (simp [*]; done)), (by first | rfl | (simp; done) | (simp [*]; done)), H', ⟨Nat.le_refl _⟩, ⟨by first | exact Kd.R_nil _ _ _ _ _ | exact Kd.N_nil _ _ _ _ _ | exact Kd.V_nil _ _ _ _ _ | exact Kd.Q_nil _ _ _ _ _ | exact Kd.S_nil _ _ _ _ _⟩, ⟨by repeat (first | (with_reducible first | exact HB.out | apply below_alloc | apply pw_below_drewN | apply below_drew1) | exact HB.out)⟩⟩
          case round =>
            clear H'
            try clear c1
            try clear p2
            try clear c4
            try clear c7
            try clear c7b0
            try clear c7b1
            try clear c7b2
            try clear c8
            try clear p2
            obtain ⟨x5_2, x6_2, x7_2, rfl, rfl, HA, HK2, HO_5, HB⟩ := hrel
            cases gk with
            | zero => exact absurd HA.out (by simp [correctorlaw8_BlockFolds.l0])
            | succ k2 =>
              have H := HA.out
              clear HA
              simp only [correctorlaw8_BlockFolds.l0] at H
              by_cases c9 : x7_2 < (l0.length : Int)
              · rw [if_pos c9] at H
                have c9b0 : decide (x7_2 < (l0.length : Int)) = true := decide_eq_true c9
                clear c9
                have HC10 := Aside0.mk H
                clear H
                go_upto_region 10 with (fail)
                go_cut [46] (fun v46 wc => ∃ (kq : Nat) (x46_9 : Bool), v46 = .bool x46_9 ∧ Aside0 (correctorlaw8_BlockFolds.j2 kq l0 l1 x5_2 x6_2 x7_2 x46_9 = some r) ∧ Aside0 (kq ≤ k2) ∧ Aside0 (Kd.R Kd.string 9 wc w.heap.size (fun _ => True) u5 x5_2) ∧ Aside0 (Below w.heap.size w wc))
                case first =>
                  have H := HC10.out
                  clear HC10
                  by_cases c11 : 0 ≤ x7_2
                  · rw [if_pos c11] at H
                    have c11b0 : decide (0 ≤ x7_2) = true := decide_eq_true c11
                    clear c11
                    (first | rw [c11b0] | (simp only [i64_w, i32_w]; rw [c11b0]) | rw [c11b1] | skip)
                    by_cases c12 : (rdOf ByteArray.empty l0 x7_2).toList = ([] : List UInt8)
                    · rw [if_pos c12] at H
                      have c12b0 : ((rdOf ByteArray.empty l0 x7_2).toList == ([] : List UInt8)) = true := beq_iff_eq.mpr c12
                      have c12b1 : ((rdOf ByteArray.empty l0 x7_2).toList != ([] : List UInt8)) = false := bne_eq_false_iff_eq.mpr c12
                      (try (have c12b2 : ((rdOf ByteArray.empty l0 x7_2).toList).isEmpty = true := by simpa using c12))
                      clear c12
                      have H' := Aside0.mk H
                      clear H
                      have p194 : 0 ≤ (x7_2 : Int) := of_decide_eq_true (by first | (with_reducible assumption) | assumption)
                      have q194 : x7_2 < (l0.length : Int) := of_decide_eq_true (by first | (with_reducible assumption) | assumption)
                      obtain ⟨ad194, e194, hx194_0⟩ := Kd.at_string HR0.out x7_2 p194 q194
                      cases e194
                      replace hx194_0 := (HB.out.cell (World.block_lt_of_cell? w _ hx194_0)).trans hx194_0
                      replace p194 := eq_true p194
                      replace q194 := eq_true q194
                      go_wp2
                      go_meet
                      case rel => exact ⟨_, (true), (by first | rfl | (simp; done) | (simp [*]; done)), H', ⟨by have := HJ4.out; have := HK2.out; first | omega | exact Nat.le_refl _⟩, ⟨by (with_reducible repeat (first | apply Kd.R_alloc | apply Kd.R_drewN | apply Kd.R_drew)); exact HO_5.out⟩, ⟨by repeat (first | (with_reducible first | exact HB.out | apply below_alloc | apply pw_below_drewN | apply below_drew1) | exact HB.out)⟩⟩
                    · rw [if_neg c12] at H
                      have c12b0 : ((rdOf ByteArray.empty l0 x7_2).toList == ([] : List UInt8)) = false := beq_eq_false_iff_ne.mpr c12
                      have c12b1 : ((rdOf ByteArray.empty l0 x7_2).toList != ([] : List UInt8)) = true := bne_iff_ne.mpr c12
                      (try (have c12b2 : ((rdOf ByteArray.empty l0 x7_2).toList).isEmpty = false := by simpa using c12))
                      by_cases c13 : ((rdOf ByteArray.empty l0 x7_2).size : Int) > 30
                      · rw [if_pos c13] at H
                        have c13b0 : decide (30 < ((rdOf ByteArray.empty l0 x7_2).size : Int)) = true := decide_eq_true c13
                        have c13b1 : decide (30 < (rdOf ByteArray.empty l0 x7_2).size) = true := decide_eq_true (by omega)
                        clear c13
                        have H' := Aside0.mk H
                        clear H
                        have p194 : 0 ≤ (x7_2 : Int) := of_decide_eq_true (by first | (with_reducible assumption) | assumption)
                        have q194 : x7_2 < (l0.length : Int) := of_decide_eq_true (by first | (with_reducible assumption) | assumption)
                        obtain ⟨ad194, e194, hx194_0⟩ := Kd.at_string HR0.out x7_2 p194 q194
                        cases e194
                        replace hx194_0 := (HB.out.cell (World.block_lt_of_cell? w _ hx194_0)).trans hx194_0
                        replace p194 := eq_true p194
                        replace q194 := eq_true q194
                        have p195 : 0 ≤ (x7_2 : Int) := of_decide_eq_true (by first | (with_reducible assumption) | assumption)
                        have q195 : x7_2 < (l0.length : Int) := of_decide_eq_true (by first | (with_reducible assumption) | assumption)
                        obtain ⟨ad195, e195, hx195_0⟩ := Kd.at_string HR0.out x7_2 p195 q195
                        obtain rfl : ad194 = ad195 := (by injection e195)
                        replace hx195_0 := (HB.out.cell (World.block_lt_of_cell? w _ hx195_0)).trans hx195_0
                        replace p195 := eq_true p195
                        replace q195 := eq_true q195
                        go_wp2
                        go_meet
                        case rel => exact ⟨_, (true), (by first | rfl | (simp; done) | (simp [*]; done)), H', ⟨by have := HJ4.out; have := HK2.out; first | omega | exact Nat.le_refl _⟩, ⟨by (with_reducible repeat (first | apply Kd.R_alloc | apply Kd.R_drewN | apply Kd.R_drew)); exact HO_5.out⟩, ⟨by repeat (first | (with_reducible first | exact HB.out | apply below_alloc | apply pw_below_drewN | apply below_drew1) | exact HB.out)⟩⟩
                      · rw [if_neg c13] at H
                        have c13b0 : decide (30 < ((rdOf ByteArray.empty l0 x7_2).size : Int)) = false := decide_eq_false c13
                        have c13b1 : decide (30 < (rdOf ByteArray.empty l0 x7_2).size) = false := decide_eq_false (by omega)
                        clear c13
                        replace H := Option.bind_eq_some_iff.mp H
                        obtain ⟨t197, A140, H⟩ := H
                        replace H : (correctorlaw8_BlockFolds.j2 k2 l0 l1 x5_2 x6_2 x7_2 (!t197)) = some r := H
                        have A14 := Aside0.mk A140
                        clear A140
                        have H' := Aside0.mk H
                        clear H
                        have p194 : 0 ≤ (x7_2 : Int) := of_decide_eq_true (by first | (with_reducible assumption) | assumption)
                        have q194 : x7_2 < (l0.length : Int) := of_decide_eq_true (by first | (with_reducible assumption) | assumption)
                        obtain ⟨ad194, e194, hx194_0⟩ := Kd.at_string HR0.out x7_2 p194 q194
                        cases e194
                        replace hx194_0 := (HB.out.cell (World.block_lt_of_cell? w _ hx194_0)).trans hx194_0
                        replace p194 := eq_true p194
                        replace q194 := eq_true q194
                        have p195 : 0 ≤ (x7_2 : Int) := of_decide_eq_true (by first | (with_reducible assumption) | assumption)
                        have q195 : x7_2 < (l0.length : Int) := of_decide_eq_true (by first | (with_reducible assumption) | assumption)
                        obtain ⟨ad195, e195, hx195_0⟩ := Kd.at_string HR0.out x7_2 p195 q195
                        obtain rfl : ad194 = ad195 := (by injection e195)
                        replace hx195_0 := (HB.out.cell (World.block_lt_of_cell? w _ hx195_0)).trans hx195_0
                        replace p195 := eq_true p195
                        replace q195 := eq_true q195
                        have p196 : 0 ≤ (x7_2 : Int) := of_decide_eq_true (by first | (with_reducible assumption) | assumption)
                        have q196 : x7_2 < (l0.length : Int) := of_decide_eq_true (by first | (with_reducible assumption) | assumption)
                        obtain ⟨ad196, e196, hx196_0⟩ := Kd.at_string HR0.out x7_2 p196 q196
                        obtain rfl : ad194 = ad196 := (by injection e196)
                        replace hx196_0 := (HB.out.cell (World.block_lt_of_cell? w _ hx196_0)).trans hx196_0
                        replace p196 := eq_true p196
                        replace q196 := eq_true q196
                        go_wp2_with (first | (go_at_call 9; (with_reducible refine (correctorlaw8_letters.calls k2 (rdOf ByteArray.empty l0 x7_2) t197 _ A14.out).mono ?_); rintro e w' ⟨rfl, ⟨nd, rfl⟩⟩))
                        go_meet
                        case rel => exact ⟨_, (!t197), (by first | rfl | (simp; done) | (simp [*]; done)), H', ⟨by have := HJ4.out; have := HK2.out; first | omega | exact Nat.le_refl _⟩, ⟨by (with_reducible repeat (first | apply Kd.R_alloc | apply Kd.R_drewN | apply Kd.R_drew)); exact HO_5.out⟩, ⟨by repeat (first | (with_reducible first | exact HB.out | apply below_alloc | apply pw_below_drewN | apply below_drew1) | exact HB.out)⟩⟩
                  · rw [if_neg c11] at H
                    exact absurd H (by simp)
                case rest =>
                  clear HC10
                  try clear c1
                  try clear p1
                  try clear q1
                  try clear hx1
                  try clear p2
                  try clear c4
                  try clear c7
                  try clear c7b0
                  try clear c7b1
                  try clear c7b2
                  try clear c8
                  try clear c9
                  try clear c9b0
                  try clear c11
                  try clear c11b0
                  try clear c11b1
                  try clear c12
                  try clear c12b0
                  try clear c12b1
                  try clear c12b2
                  try clear c13
                  try clear c13b0
                  try clear c13b1
                  try clear hx194_0
                  try clear hx195_0
                  try clear hx196_0
                  try clear p194
                  try clear p195
                  try clear p196
                  try clear p2
                  try clear q194
                  try clear q195
                  try clear q196
                  obtain ⟨kq, x46_9, rfl, HA, HJ9, HO_5, HB⟩ := hcut
                  cases kq with
                  | zero => exact absurd HA.out (by simp [correctorlaw8_BlockFolds.j2])
                  | succ kj9 =>
                    have H := HA.out
                    clear HA
                    simp only [correctorlaw8_BlockFolds.j2] at H
                    by_cases c15 : x46_9 = true
                    · subst c15
                      have H1 : (some true) = some r := by rw [if_pos rfl] at H; exact H
                      clear H
                      have H := H1
                      clear H1
                      obtain rfl := Option.some.inj H
                      go_wp2
                      go_ret
                      exact ⟨by first | rfl | (simp [errW_none, errW_some] <;> rfl) | (simp [*, errW_none, errW_some] <;> rfl), by repeat (first | (with_reducible first | exact HB.out | apply below_alloc | apply pw_below_drewN | apply below_drew1) | exact HB.out)⟩
                    · replace c15 := Bool.eq_false_iff.mpr c15
                      subst c15
                      have H1 : (if x7_2 < (l1.length : Int) then (correctorlaw8_BlockFolds.j3 kj9 l0 l1 x5_2 x6_2 x7_2 0 (decide (x7_2 > 0))) else (correctorlaw8_BlockFolds.j3 kj9 l0 l1 x5_2 x6_2 x7_2 0 false)) = some r := by rw [if_neg (show ¬ (false = true) by decide)] at H; exact H
                      clear H
                      have H := H1
                      clear H1
                      have HC16 := Aside0.mk H
                      clear H
                      go_upto_region 13 with (fail)
                      go_cut [54] (fun v54 wc => ∃ (kq : Nat) (x54_15 : Bool), v54 = .bool x54_15 ∧ Aside0 (correctorlaw8_BlockFolds.j3 kq l0 l1 x5_2 x6_2 x7_2 0 x54_15 = some r) ∧ Aside0 (kq ≤ kj9) ∧ Aside0 (Kd.R Kd.string 9 wc w.heap.size (fun _ => True) u5 x5_2) ∧ Aside0 (Below w.heap.size w wc))
                      case first =>
                        have H := HC16.out
                        clear HC16
                        by_cases c17 : x7_2 < (l1.length : Int)
                        · rw [if_pos c17] at H
                          have c17b0 : decide (x7_2 < (l1.length : Int)) = true := decide_eq_true c17
                          clear c17
                          (first | rw [c17b0] | (simp only [i64_w, i32_w]; rw [c17b0]) | rw [c17b1] | skip)
                          have H' := Aside0.mk H
                          clear H
                          go_wp2
                          go_meet
                          case rel => exact ⟨_, (decide (x7_2 > 0)), (by first | rfl | (simp; done) | (simp [*]; done)), H', ⟨by have := HJ4.out; have := HK2.out; have := HJ9.out; first | omega | exact Nat.le_refl _⟩, ⟨by (with_reducible repeat (first | apply Kd.R_alloc | apply Kd.R_drewN | apply Kd.R_drew)); exact HO_5.out⟩, ⟨by repeat (first | (with_reducible first | exact HB.out | apply below_alloc | apply pw_below_drewN | apply below_drew1) | exact HB.out)⟩⟩
                        · rw [if_neg c17] at H
                          have c17b0 : decide (x7_2 < (l1.length : Int)) = false := decide_eq_false c17
                          clear c17
                          (first | rw [c17b0] | (simp only [i64_w, i32_w]; rw [c17b0]) | rw [c17b1] | skip)
                          have H' := Aside0.mk H
                          clear H
                          go_wp2
                          go_meet
                          case rel => exact ⟨_, (false), (by first | rfl | (simp; done) | (simp [*]; done)), H', ⟨by have := HJ4.out; have := HK2.out; have := HJ9.out; first | omega | exact Nat.le_refl _⟩, ⟨by (with_reducible repeat (first | apply Kd.R_alloc | apply Kd.R_drewN | apply Kd.R_drew)); exact HO_5.out⟩, ⟨by repeat (first | (with_reducible first | exact HB.out | apply below_alloc | apply pw_below_drewN | apply below_drew1) | exact HB.out)⟩⟩
                      case rest =>
                        clear HC16
                        try clear c1
                        try clear p1
                        try clear q1
                        try clear hx1
                        try clear p2
                        try clear c4
                        try clear c7
                        try clear c7b0
                        try clear c7b1
                        try clear c7b2
                        try clear c8
                        try clear c9
                        try clear c9b0
                        try clear c11
                        try clear c11b0
                        try clear c11b1
                        try clear c12
                        try clear c12b0
                        try clear c12b1
                        try clear c12b2
                        try clear c13
                        try clear c13b0
                        try clear c13b1
                        try clear c15
                        try clear c17
                        try clear c17b0
                        try clear c17b1
                        try clear hx194_0
                        try clear hx195_0
                        try clear hx196_0
                        try clear p1
                        try clear p194
                        try clear p195
                        try clear p196
                        try clear p2
                        try clear q1
                        try clear q194
                        try clear q195
                        try clear q196
                        obtain ⟨kq, x54_15, rfl, HA, HJ15, HO_5, HB⟩ := hcut
                        cases kq with
                        | zero => exact absurd HA.out (by simp [correctorlaw8_BlockFolds.j3])
                        | succ kj15 =>
                          have H := HA.out
                          clear HA
                          simp only [correctorlaw8_BlockFolds.j3] at H
                          have HC18 := Aside0.mk H
                          clear H
                          go_upto_if 54 with (fail)
                          go_cut [8] (fun v8 wc => ∃ (kq : Nat) (x8_17 : Int), v8 = .int .i64 x8_17 ∧ Aside0 (correctorlaw8_BlockFolds.j4 kq l0 l1 x5_2 x6_2 x7_2 x8_17 = some r) ∧ Aside0 (kq ≤ kj15) ∧ Aside0 (Kd.R Kd.string 9 wc w.heap.size (fun _ => True) u5 x5_2) ∧ Aside0 (Below w.heap.size w wc))
                          case first =>
                            have H := HC18.out
                            clear HC18
                            by_cases c19 : x54_15 = true
                            · subst c19
                              have H1 : (if 0 ≤ x7_2 then (if x7_2 < (l1.length : Int) then ((correctorlaw8_within.f (rd l1 x7_2) 3).bind fun t199 => (correctorlaw8_BlockFolds.j4 kj15 l0 l1 x5_2 x6_2 x7_2 t199)) else (none)) else (none)) = some r := by rw [if_pos rfl] at H; exact H
                              clear H
                              have H := H1
                              clear H1
                              by_cases c20 : 0 ≤ x7_2
                              · rw [if_pos c20] at H
                                have c20b0 : decide (0 ≤ x7_2) = true := decide_eq_true c20
                                clear c20
                                (first | rw [c20b0] | (simp only [i64_w, i32_w]; rw [c20b0]) | rw [c20b1] | skip)
                                by_cases c21 : x7_2 < (l1.length : Int)
                                · rw [if_pos c21] at H
                                  have c21b0 : decide (x7_2 < (l1.length : Int)) = true := decide_eq_true c21
                                  clear c21
                                  replace H := Option.bind_eq_some_iff.mp H
                                  obtain ⟨t199, A220, H⟩ := H
                                  replace H : (correctorlaw8_BlockFolds.j4 kj15 l0 l1 x5_2 x6_2 x7_2 t199) = some r := H
                                  have A22 := Aside0.mk A220
                                  clear A220
                                  have H' := Aside0.mk H
                                  clear H
                                  have p198 : 0 ≤ (x7_2 : Int) := of_decide_eq_true (by first | (with_reducible assumption) | assumption)
                                  have q198 : x7_2 < (l1.length : Int) := of_decide_eq_true (by first | (with_reducible assumption) | assumption)
                                  obtain ⟨ad198, e198, hx198_0⟩ := Kd.at_int HR1.out x7_2 p198 q198
                                  cases e198
                                  replace hx198_0 := (HB.out.cell (World.block_lt_of_cell? w _ hx198_0)).trans hx198_0
                                  replace p198 := eq_true p198
                                  replace q198 := eq_true q198
                                  go_wp2_with (first | ((with_reducible refine gate_callee (f := 10) rfl ?_); refine goesL_ (some 59) rfl rfl Try.func10 (by kernel_rfl) rfl #[.int .i64 (rd l1 x7_2), .int .i64 3] rfl (by (try simp only [List.map_toArray, List.map_cons, List.map_nil]); first | done | rfl | (simp only [List.length_drop, List.length_take]; rfl) | (simp only [ByteArray.size_extract, Nat.min_self]; done) | (simp only [ByteArray.size_extract, Nat.min_self]; rfl)) ?_; (with_reducible refine (correctorlaw8_within.calls (rd l1 x7_2) 3 t199 _ A22.out).mono ?_); rintro e w' ⟨rfl, ⟨nd, rfl⟩⟩; refine ⟨_, rfl, ?_⟩))
                                  go_meet
                                  case rel => exact ⟨_, (t199), (by first | rfl | (simp; done) | (simp [*]; done)), H', ⟨by have := HJ4.out; have := HK2.out; have := HJ9.out; have := HJ15.out; first | omega | exact Nat.le_refl _⟩, ⟨by (with_reducible repeat (first | apply Kd.R_alloc | apply Kd.R_drewN | apply Kd.R_drew)); exact HO_5.out⟩, ⟨by repeat (first | (with_reducible first | exact HB.out | apply below_alloc | apply pw_below_drewN | apply below_drew1) | exact HB.out)⟩⟩
                                · rw [if_neg c21] at H
                                  exact absurd H (by simp)
                              · rw [if_neg c20] at H
                                exact absurd H (by simp)
                            · replace c19 := Bool.eq_false_iff.mpr c19
                              subst c19
                              have H1 : (correctorlaw8_BlockFolds.j4 kj15 l0 l1 x5_2 x6_2 x7_2 0) = some r := by rw [if_neg (show ¬ (false = true) by decide)] at H; exact H
                              clear H
                              have H := H1
                              clear H1
                              have H' := Aside0.mk H
                              clear H
                              go_wp2
                              go_meet
                              case rel => exact ⟨_, (0), (by first | rfl | (simp; done) | (simp [*]; done)), H', ⟨by have := HJ4.out; have := HK2.out; have := HJ9.out; have := HJ15.out; first | omega | exact Nat.le_refl _⟩, ⟨by (with_reducible repeat (first | apply Kd.R_alloc | apply Kd.R_drewN | apply Kd.R_drew)); exact HO_5.out⟩, ⟨by repeat (first | (with_reducible first | exact HB.out | apply below_alloc | apply pw_below_drewN | apply below_drew1) | exact HB.out)⟩⟩
                          case rest =>
                            clear HC18
                            try clear c1
                            try clear p1
                            try clear q1
                            try clear hx1
                            try clear c2
                            try clear p2
                            try clear c4
                            try clear c7
                            try clear c7b0
                            try clear c7b1
                            try clear c7b2
                            try clear c8
                            try clear c9
                            try clear c9b0
                            try clear c10
                            try clear c11
                            try clear c11b0
                            try clear c11b1
                            try clear c12
                            try clear c12b0
                            try clear c12b1
                            try clear c12b2
                            try clear c13
                            try clear c13b0
                            try clear c13b1
                            try clear c15
                            try clear c17
                            try clear c17b0
                            try clear c17b1
                            try clear c19
                            try clear p19
                            try clear q19
                            try clear hx19
                            try clear c20
                            try clear c20b0
                            try clear c20b1
                            try clear c21
                            try clear c21b0
                            try clear hx194_0
                            try clear hx195_0
                            try clear hx196_0
                            try clear hx198_0
                            try clear p1
                            try clear p194
                            try clear p195
                            try clear p196
                            try clear p198
                            try clear p2
                            try clear q1
                            try clear q194
                            try clear q195
                            try clear q196
                            try clear q198
                            obtain ⟨kq, x8_17, rfl, HA, HJ17, HO_5, HB⟩ := hcut
                            cases kq with
                            | zero => exact absurd HA.out (by simp [correctorlaw8_BlockFolds.j4])
                            | succ kj17 =>
                              have H := HA.out
                              clear HA
                              simp only [correctorlaw8_BlockFolds.j4] at H
                              have H' := Aside0.mk H
                              clear H
                              go_wp2
                              go_loopg [5, 6, 9] kj17 (fun kq v5 v6 v9 w' => ∃ (x5_6 : List ByteArray) (x6_6 : ByteArray) (x9_6 : Int), v6 = .string x6_6 ∧ v9 = .int .i64 x9_6 ∧ Aside0 (correctorlaw8_BlockFolds.l1 kq l0 l1 x5_6 x6_6 x7_2 x8_17 x9_6 = some r) ∧ Aside0 (kq ≤ kj17) ∧ Aside0 (Kd.R Kd.string 9 w' w.heap.size (fun _ => True) v5 x5_6) ∧ Aside0 (Below w.heap.size w w'))
                              case atStart => exact ⟨(x5_2), (x6_2), (0), (by first | rfl | (simp; done) | (simp [*]; done)), (by first | rfl | (simp; done) | (simp [*]; done)), H', ⟨Nat.le_refl _⟩, ⟨by (with_reducible repeat (first | apply Kd.R_alloc | apply Kd.R_drewN | apply Kd.R_drew)); exact HO_5.out⟩, ⟨by repeat (first | (with_reducible first | exact HB.out | apply below_alloc | apply pw_below_drewN | apply below_drew1) | exact HB.out)⟩⟩
                              case round =>
                                clear H'
                                try clear c1
                                try clear p1
                                try clear q1
                                try clear hx1
                                try clear c2
                                try clear p2
                                try clear c4
                                try clear c7
                                try clear c7b0
                                try clear c7b1
                                try clear c7b2
                                try clear c8
                                try clear c9
                                try clear c9b0
                                try clear c10
                                try clear c11
                                try clear c11b0
                                try clear c11b1
                                try clear c12
                                try clear c12b0
                                try clear c12b1
                                try clear c12b2
                                try clear c13
                                try clear c13b0
                                try clear c13b1
                                try clear c15
                                try clear c17
                                try clear c17b0
                                try clear c17b1
                                try clear c19
                                try clear p19
                                try clear q19
                                try clear hx19
                                try clear c20
                                try clear c20b0
                                try clear c20b1
                                try clear c21
                                try clear c21b0
                                try clear hx194_0
                                try clear hx195_0
                                try clear hx196_0
                                try clear hx198_0
                                try clear p1
                                try clear p19
                                try clear p194
                                try clear p195
                                try clear p196
                                try clear p198
                                try clear p2
                                try clear q1
                                try clear q19
                                try clear q194
                                try clear q195
                                try clear q196
                                try clear q198
                                obtain ⟨x5_6, x6_6, x9_6, rfl, rfl, HA, HK6, HO_5, HB⟩ := hrel
                                cases gk with
                                | zero => exact absurd HA.out (by simp [correctorlaw8_BlockFolds.l1])
                                | succ k6 =>
                                  have H := HA.out
                                  clear HA
                                  simp only [correctorlaw8_BlockFolds.l1] at H
                                  by_cases c23 : x9_6 < x8_17
                                  · rw [if_pos c23] at H
                                    have c23b0 : decide (x9_6 < x8_17) = true := decide_eq_true c23
                                    clear c23
                                    by_cases c24 : x5_6.length < 8796093022208
                                    · rw [if_pos c24] at H
                                      have LMc24 := Aside0.mk c24
                                      clear c24
                                      obtain ⟨y200, hy200⟩ : ∃ y_ : List ByteArray, y_ = (x5_6 ++ [(⟨#[10]⟩ : ByteArray)]) := ⟨_, rfl⟩
                                      replace H : (if x6_6.size + 1 ≤ 9223372036854775807 then (correctorlaw8_BlockFolds.l1 k6 l0 l1 y200 (x6_6 ++ (⟨#[10]⟩ : ByteArray)) x7_2 x8_17 (wrap64 (x9_6 + 1))) else (none)) = some r := by first | (rw [hy200]; with_reducible exact H) | (have H2_ := (Option.bind_some _ _).symm.trans H; rw [hy200]; with_reducible exact H2_) | (have H2_ := (Option.bind_some _ _).symm.trans H; with_reducible exact H2_) | with_reducible exact H | (rw [hy200]; exact H) | exact H
                                      have Ny200 := Aside0.mk hy200
                                      clear hy200
                                      by_cases c25 : x6_6.size + 1 ≤ 9223372036854775807
                                      · rw [if_pos c25] at H
                                        (try (have c25v : (9223372036854775807 < x6_6.size + 1) = False := eq_false (by have h_ := c25; simp only [ByteArray.size_append, ByteArray.size_extract] at h_; omega)))
                                        have c25b0 := eq_true c25
                                        have c25b1 : decide (x6_6.size + 1 ≤ 9223372036854775807) = true := decide_eq_true c25
                                        try have c25b2 : (9223372036854775807 < x6_6.size + 1) = False := eq_false (Nat.not_lt.2 c25)
                                        have H' := Aside0.mk H
                                        clear H
                                        go_wp2_with (first | ((with_reducible refine gate_builtin (b := .append) (xs := #[.tmp 65, .tmp 66]) rfl ?_); (try (refine gate_guard (by rfl) ?_; dsimp only)); at_builtin; refine Kd.R_append Kd.string (w0 := w) w.heap.size rfl (.tmp 65) (.tmp 66) 22 9 (.string ⟨#[]⟩) 16 rfl Try.underlying22 info9 rfl (by decide) (by omega) u5 x5_6 (⟨#[10]⟩ : ByteArray) [.string (⟨#[10]⟩ : ByteArray)] (fun _ => True) (fun _ => False) rfl rfl ?aP (fun _ hk => hk.elim) ?aF ?aO ?aB ?aS ?aL ?_; (case aP => exact rfl); (case aB => exact (by repeat (first | (with_reducible first | exact HB.out | apply below_alloc | apply pw_below_drewN | apply below_drew1) | exact HB.out))); (case aF => exact (fun _ _ => trivial)); (case aO => exact (by (with_reducible repeat (first | apply Kd.R_alloc | apply Kd.R_drewN | apply Kd.R_drew)); exact HO_5.out)); (case aS => exact (below_size (by repeat (first | (with_reducible first | exact HB.out | apply below_alloc | apply pw_below_drewN | apply below_drew1) | exact HB.out)))); (case aL => have := LMc24.out; omega); intro v201 w26 ho hb hg hat; rw [← Ny200.out] at ho; have n0_ := Aside0.mk (hb); have n1_ := Aside0.mk (ho); clear HB; clear HO_5; have HB := n0_; have HO202 := n1_; clear n0_ n1_; clear ho hb hg hat))
                                        go_roundg k6
                                        case measure => have := HJ4.out; have := HK2.out; have := HJ9.out; have := HJ15.out; have := HJ17.out; have := HK6.out; omega
                                        case rel => exact ⟨(y200), (x6_6 ++ (⟨#[10]⟩ : ByteArray)), (wrap64 (x9_6 + 1)), (by first | rfl | (simp; done) | (simp [*]; done)), (by first | rfl | (simp; done) | (simp [*]; done)), H', ⟨by have := HJ4.out; have := HK2.out; have := HJ9.out; have := HJ15.out; have := HJ17.out; have := HK6.out; omega⟩, ⟨by (with_reducible repeat (first | apply Kd.R_alloc | apply Kd.R_drewN | apply Kd.R_drew)); exact HO202.out⟩, ⟨by repeat (first | (with_reducible first | exact HB.out | apply below_alloc | apply pw_below_drewN | apply below_drew1) | exact HB.out)⟩⟩
                                      · rw [if_neg c25] at H
                                        exact absurd H (by simp)
                                    · rw [if_neg c24] at H
                                      exact absurd H (by simp)
                                  · rw [if_neg c23] at H
                                    have c23b0 : decide (x9_6 < x8_17) = false := decide_eq_false c23
                                    clear c23
                                    by_cases c27 : x7_2 > 0
                                    · rw [if_pos c27] at H
                                      have c27b0 : decide (0 < x7_2) = true := decide_eq_true c27
                                      clear c27
                                      by_cases c28 : x8_17 = 0
                                      · rw [if_pos c28] at H
                                        have c28b0 : (x8_17 == 0) = true := beq_iff_eq.mpr c28
                                        have c28b1 : (x8_17 != 0) = false := bne_eq_false_iff_eq.mpr c28
                                        clear c28
                                        by_cases c29 : x6_6.size + 1 ≤ 9223372036854775807
                                        · rw [if_pos c29] at H
                                          (try (have c29v : (9223372036854775807 < x6_6.size + 1) = False := eq_false (by have h_ := c29; simp only [ByteArray.size_append, ByteArray.size_extract] at h_; omega)))
                                          have c29b0 := eq_true c29
                                          have c29b1 : decide (x6_6.size + 1 ≤ 9223372036854775807) = true := decide_eq_true c29
                                          try have c29b2 : (9223372036854775807 < x6_6.size + 1) = False := eq_false (Nat.not_lt.2 c29)
                                          by_cases c30 : 0 ≤ x7_2
                                          · rw [if_pos c30] at H
                                            have c30b0 : decide (0 ≤ x7_2) = true := decide_eq_true c30
                                            clear c30
                                            by_cases c31 : x7_2 < (l0.length : Int)
                                            · rw [if_pos c31] at H
                                              have c31b0 : decide (x7_2 < (l0.length : Int)) = true := decide_eq_true c31
                                              clear c31
                                              by_cases c32 : 2 + (rdOf ByteArray.empty l0 x7_2).size ≤ 9223372036854775807
                                              · rw [if_pos c32] at H
                                                (try (have c32v : (9223372036854775807 < 2 + (rdOf ByteArray.empty l0 x7_2).size) = False := eq_false (by have h_ := c32; simp only [ByteArray.size_append, ByteArray.size_extract] at h_; omega)))
                                                have c32b0 := eq_true c32
                                                have c32b1 : decide (2 + (rdOf ByteArray.empty l0 x7_2).size ≤ 9223372036854775807) = true := decide_eq_true c32
                                                try have c32b2 : (9223372036854775807 < 2 + (rdOf ByteArray.empty l0 x7_2).size) = False := eq_false (Nat.not_lt.2 c32)
                                                by_cases c33 : ((⟨#[32, 32]⟩ : ByteArray) ++ (rdOf ByteArray.empty l0 x7_2)).size + 1 ≤ 9223372036854775807
                                                · rw [if_pos c33] at H
                                                  (try (have c33v : (9223372036854775807 < 2 + (rdOf ByteArray.empty l0 x7_2).size + 1) = False := eq_false (by have h_ := c33; simp only [ByteArray.size_append, ByteArray.size_extract] at h_; have y_0 : (⟨#[32, 32]⟩ : ByteArray).size = 2 := rfl; omega)))
                                                  have c33b0 := eq_true c33
                                                  have c33b1 : decide (((⟨#[32, 32]⟩ : ByteArray) ++ (rdOf ByteArray.empty l0 x7_2)).size + 1 ≤ 9223372036854775807) = true := decide_eq_true c33
                                                  try have c33b2 : (9223372036854775807 < ((⟨#[32, 32]⟩ : ByteArray) ++ (rdOf ByteArray.empty l0 x7_2)).size + 1) = False := eq_false (Nat.not_lt.2 c33)
                                                  by_cases c34 : x5_6.length < 8796093022208
                                                  · rw [if_pos c34] at H
                                                    have LMc34 := Aside0.mk c34
                                                    clear c34
                                                    obtain ⟨y204, hy204⟩ : ∃ y_ : List ByteArray, y_ = (x5_6 ++ [((⟨#[32, 32]⟩ : ByteArray) ++ (rdOf ByteArray.empty l0 x7_2)) ++ (⟨#[10]⟩ : ByteArray)]) := ⟨_, rfl⟩
                                                    replace H : (if (x6_6 ++ (⟨#[32]⟩ : ByteArray)).size + (rdOf ByteArray.empty l0 x7_2).size ≤ 9223372036854775807 then (correctorlaw8_BlockFolds.l0 k6 l0 l1 y204 ((x6_6 ++ (⟨#[32]⟩ : ByteArray)) ++ (rdOf ByteArray.empty l0 x7_2)) (wrap64 (x7_2 + 1))) else (none)) = some r := by first | (rw [hy204]; with_reducible exact H) | (have H2_ := (Option.bind_some _ _).symm.trans H; rw [hy204]; with_reducible exact H2_) | (have H2_ := (Option.bind_some _ _).symm.trans H; with_reducible exact H2_) | with_reducible exact H | (rw [hy204]; exact H) | exact H
                                                    have Ny204 := Aside0.mk hy204
                                                    clear hy204
                                                    by_cases c35 : (x6_6 ++ (⟨#[32]⟩ : ByteArray)).size + (rdOf ByteArray.empty l0 x7_2).size ≤ 9223372036854775807
                                                    · rw [if_pos c35] at H
                                                      (try (have c35v : (9223372036854775807 < x6_6.size + 1 + (rdOf ByteArray.empty l0 x7_2).size) = False := eq_false (by have h_ := c35; simp only [ByteArray.size_append, ByteArray.size_extract] at h_; have y_0 : (⟨#[32]⟩ : ByteArray).size = 1 := rfl; omega)))
                                                      have c35b0 := eq_true c35
                                                      have c35b1 : decide ((x6_6 ++ (⟨#[32]⟩ : ByteArray)).size + (rdOf ByteArray.empty l0 x7_2).size ≤ 9223372036854775807) = true := decide_eq_true c35
                                                      try have c35b2 : (9223372036854775807 < (x6_6 ++ (⟨#[32]⟩ : ByteArray)).size + (rdOf ByteArray.empty l0 x7_2).size) = False := eq_false (Nat.not_lt.2 c35)
                                                      have H' := Aside0.mk H
                                                      clear H
                                                      have p203 : 0 ≤ (x7_2 : Int) := of_decide_eq_true (by first | (with_reducible assumption) | assumption)
                                                      have q203 : x7_2 < (l0.length : Int) := of_decide_eq_true (by first | (with_reducible assumption) | assumption)
                                                      obtain ⟨ad203, e203, hx203_0⟩ := Kd.at_string HR0.out x7_2 p203 q203
                                                      cases e203
                                                      replace hx203_0 := (HB.out.cell (World.block_lt_of_cell? w _ hx203_0)).trans hx203_0
                                                      replace p203 := eq_true p203
                                                      replace q203 := eq_true q203
                                                      go_wp2_with (first | ((with_reducible refine gate_builtin (b := .append) (xs := #[.tmp 78, .tmp 85]) rfl ?_); (try (refine gate_guard (by rfl) ?_; dsimp only)); at_builtin; refine Kd.R_append Kd.string (w0 := w) w.heap.size rfl (.tmp 78) (.tmp 85) 22 9 (.string ⟨#[]⟩) 16 rfl Try.underlying22 info9 rfl (by decide) (by omega) u5 x5_6 (((⟨#[32, 32]⟩ : ByteArray) ++ (rdOf ByteArray.empty l0 x7_2)) ++ (⟨#[10]⟩ : ByteArray)) [.string (((⟨#[32, 32]⟩ : ByteArray) ++ (rdOf ByteArray.empty l0 x7_2)) ++ (⟨#[10]⟩ : ByteArray))] (fun _ => True) (fun _ => False) rfl rfl ?aP (fun _ hk => hk.elim) ?aF ?aO ?aB ?aS ?aL ?_; (case aP => exact rfl); (case aB => exact (by repeat (first | (with_reducible first | exact HB.out | apply below_alloc | apply pw_below_drewN | apply below_drew1) | exact HB.out))); (case aF => exact (fun _ _ => trivial)); (case aO => exact (by (with_reducible repeat (first | apply Kd.R_alloc | apply Kd.R_drewN | apply Kd.R_drew)); exact HO_5.out)); (case aS => exact (below_size (by repeat (first | (with_reducible first | exact HB.out | apply below_alloc | apply pw_below_drewN | apply below_drew1) | exact HB.out)))); (case aL => have := LMc34.out; omega); intro v205 w36 ho hb hg hat; rw [← Ny204.out] at ho; have n0_ := Aside0.mk (hb); have n1_ := Aside0.mk (ho); clear HB; clear HO_5; have HB := n0_; have HO206 := n1_; clear n0_ n1_; clear ho hb hg hat; have p207 : 0 ≤ (x7_2 : Int) := of_decide_eq_true (by first | (with_reducible assumption) | assumption); have q207 : x7_2 < (l0.length : Int) := of_decide_eq_true (by first | (with_reducible assumption) | assumption); obtain ⟨ad207, e207, hx207_0⟩ := Kd.at_string HR0.out x7_2 p207 q207; obtain rfl : ad203 = ad207 := (by injection e207); replace hx207_0 := (HB.out.cell (World.block_lt_of_cell? w _ hx207_0)).trans hx207_0; replace p207 := eq_true p207; replace q207 := eq_true q207))
                                                      go_roundg k6
                                                      case measure => have := HJ4.out; have := HK2.out; have := HJ9.out; have := HJ15.out; have := HJ17.out; have := HK6.out; omega
                                                      case rel => exact ⟨(y204), ((x6_6 ++ (⟨#[32]⟩ : ByteArray)) ++ (rdOf ByteArray.empty l0 x7_2)), (wrap64 (x7_2 + 1)), (by first | rfl | (simp; done) | (simp [*]; done)), (by first | rfl | (simp; done) | (simp [*]; done)), H', ⟨by have := HJ4.out; have := HK2.out; have := HJ9.out; have := HJ15.out; have := HJ17.out; have := HK6.out; omega⟩, ⟨by (with_reducible repeat (first | apply Kd.R_alloc | apply Kd.R_drewN | apply Kd.R_drew)); exact HO206.out⟩, ⟨by repeat (first | (with_reducible first | exact HB.out | apply below_alloc | apply pw_below_drewN | apply below_drew1) | exact HB.out)⟩⟩
                                                    · rw [if_neg c35] at H
                                                      exact absurd H (by simp)
                                                  · rw [if_neg c34] at H
                                                    exact absurd H (by simp)
                                                · rw [if_neg c33] at H
                                                  exact absurd H (by simp)
                                              · rw [if_neg c32] at H
                                                exact absurd H (by simp)
                                            · rw [if_neg c31] at H
                                              exact absurd H (by simp)
                                          · rw [if_neg c30] at H
                                            exact absurd H (by simp)
                                        · rw [if_neg c29] at H
                                          exact absurd H (by simp)
                                      · rw [if_neg c28] at H
                                        have c28b0 : (x8_17 == 0) = false := beq_eq_false_iff_ne.mpr c28
                                        have c28b1 : (x8_17 != 0) = true := bne_iff_ne.mpr c28
                                        by_cases c37 : 0 ≤ x7_2
                                        · rw [if_pos c37] at H
                                          have c37b0 : decide (0 ≤ x7_2) = true := decide_eq_true c37
                                          clear c37
                                          by_cases c38 : x7_2 < (l0.length : Int)
                                          · rw [if_pos c38] at H
                                            have c38b0 : decide (x7_2 < (l0.length : Int)) = true := decide_eq_true c38
                                            clear c38
                                            by_cases c39 : 2 + (rdOf ByteArray.empty l0 x7_2).size ≤ 9223372036854775807
                                            · rw [if_pos c39] at H
                                              (try (have c39v : (9223372036854775807 < 2 + (rdOf ByteArray.empty l0 x7_2).size) = False := eq_false (by have h_ := c39; simp only [ByteArray.size_append, ByteArray.size_extract] at h_; omega)))
                                              have c39b0 := eq_true c39
                                              have c39b1 : decide (2 + (rdOf ByteArray.empty l0 x7_2).size ≤ 9223372036854775807) = true := decide_eq_true c39
                                              try have c39b2 : (9223372036854775807 < 2 + (rdOf ByteArray.empty l0 x7_2).size) = False := eq_false (Nat.not_lt.2 c39)
                                              by_cases c40 : ((⟨#[32, 32]⟩ : ByteArray) ++ (rdOf ByteArray.empty l0 x7_2)).size + 1 ≤ 9223372036854775807
                                              · rw [if_pos c40] at H
                                                (try (have c40v : (9223372036854775807 < 2 + (rdOf ByteArray.empty l0 x7_2).size + 1) = False := eq_false (by have h_ := c40; simp only [ByteArray.size_append, ByteArray.size_extract] at h_; have y_0 : (⟨#[32, 32]⟩ : ByteArray).size = 2 := rfl; omega)))
                                                have c40b0 := eq_true c40
                                                have c40b1 : decide (((⟨#[32, 32]⟩ : ByteArray) ++ (rdOf ByteArray.empty l0 x7_2)).size + 1 ≤ 9223372036854775807) = true := decide_eq_true c40
                                                try have c40b2 : (9223372036854775807 < ((⟨#[32, 32]⟩ : ByteArray) ++ (rdOf ByteArray.empty l0 x7_2)).size + 1) = False := eq_false (Nat.not_lt.2 c40)
                                                by_cases c41 : x5_6.length < 8796093022208
                                                · rw [if_pos c41] at H
                                                  have LMc41 := Aside0.mk c41
                                                  clear c41
                                                  obtain ⟨y209, hy209⟩ : ∃ y_ : List ByteArray, y_ = (x5_6 ++ [((⟨#[32, 32]⟩ : ByteArray) ++ (rdOf ByteArray.empty l0 x7_2)) ++ (⟨#[10]⟩ : ByteArray)]) := ⟨_, rfl⟩
                                                  replace H : (if x6_6.size + (rdOf ByteArray.empty l0 x7_2).size ≤ 9223372036854775807 then (correctorlaw8_BlockFolds.l0 k6 l0 l1 y209 (x6_6 ++ (rdOf ByteArray.empty l0 x7_2)) (wrap64 (x7_2 + 1))) else (none)) = some r := by first | (rw [hy209]; with_reducible exact H) | (have H2_ := (Option.bind_some _ _).symm.trans H; rw [hy209]; with_reducible exact H2_) | (have H2_ := (Option.bind_some _ _).symm.trans H; with_reducible exact H2_) | with_reducible exact H | (rw [hy209]; exact H) | exact H
                                                  have Ny209 := Aside0.mk hy209
                                                  clear hy209
                                                  by_cases c42 : x6_6.size + (rdOf ByteArray.empty l0 x7_2).size ≤ 9223372036854775807
                                                  · rw [if_pos c42] at H
                                                    (try (have c42v : (9223372036854775807 < x6_6.size + (rdOf ByteArray.empty l0 x7_2).size) = False := eq_false (by have h_ := c42; simp only [ByteArray.size_append, ByteArray.size_extract] at h_; omega)))
                                                    have c42b0 := eq_true c42
                                                    have c42b1 : decide (x6_6.size + (rdOf ByteArray.empty l0 x7_2).size ≤ 9223372036854775807) = true := decide_eq_true c42
                                                    try have c42b2 : (9223372036854775807 < x6_6.size + (rdOf ByteArray.empty l0 x7_2).size) = False := eq_false (Nat.not_lt.2 c42)
                                                    have H' := Aside0.mk H
                                                    clear H
                                                    have p208 : 0 ≤ (x7_2 : Int) := of_decide_eq_true (by first | (with_reducible assumption) | assumption)
                                                    have q208 : x7_2 < (l0.length : Int) := of_decide_eq_true (by first | (with_reducible assumption) | assumption)
                                                    obtain ⟨ad208, e208, hx208_0⟩ := Kd.at_string HR0.out x7_2 p208 q208
                                                    cases e208
                                                    replace hx208_0 := (HB.out.cell (World.block_lt_of_cell? w _ hx208_0)).trans hx208_0
                                                    replace p208 := eq_true p208
                                                    replace q208 := eq_true q208
                                                    go_wp2_with (first | ((with_reducible refine gate_builtin (b := .append) (xs := #[.tmp 78, .tmp 85]) rfl ?_); (try (refine gate_guard (by rfl) ?_; dsimp only)); at_builtin; refine Kd.R_append Kd.string (w0 := w) w.heap.size rfl (.tmp 78) (.tmp 85) 22 9 (.string ⟨#[]⟩) 16 rfl Try.underlying22 info9 rfl (by decide) (by omega) u5 x5_6 (((⟨#[32, 32]⟩ : ByteArray) ++ (rdOf ByteArray.empty l0 x7_2)) ++ (⟨#[10]⟩ : ByteArray)) [.string (((⟨#[32, 32]⟩ : ByteArray) ++ (rdOf ByteArray.empty l0 x7_2)) ++ (⟨#[10]⟩ : ByteArray))] (fun _ => True) (fun _ => False) rfl rfl ?aP (fun _ hk => hk.elim) ?aF ?aO ?aB ?aS ?aL ?_; (case aP => exact rfl); (case aB => exact (by repeat (first | (with_reducible first | exact HB.out | apply below_alloc | apply pw_below_drewN | apply below_drew1) | exact HB.out))); (case aF => exact (fun _ _ => trivial)); (case aO => exact (by (with_reducible repeat (first | apply Kd.R_alloc | apply Kd.R_drewN | apply Kd.R_drew)); exact HO_5.out)); (case aS => exact (below_size (by repeat (first | (with_reducible first | exact HB.out | apply below_alloc | apply pw_below_drewN | apply below_drew1) | exact HB.out)))); (case aL => have := LMc41.out; omega); intro v210 w43 ho hb hg hat; rw [← Ny209.out] at ho; have n0_ := Aside0.mk (hb); have n1_ := Aside0.mk (ho); clear HB; clear HO_5; have HB := n0_; have HO211 := n1_; clear n0_ n1_; clear ho hb hg hat; have p212 : 0 ≤ (x7_2 : Int) := of_decide_eq_true (by first | (with_reducible assumption) | assumption); have q212 : x7_2 < (l0.length : Int) := of_decide_eq_true (by first | (with_reducible assumption) | assumption); obtain ⟨ad212, e212, hx212_0⟩ := Kd.at_string HR0.out x7_2 p212 q212; obtain rfl : ad208 = ad212 := (by injection e212); replace hx212_0 := (HB.out.cell (World.block_lt_of_cell? w _ hx212_0)).trans hx212_0; replace p212 := eq_true p212; replace q212 := eq_true q212))
                                                    go_roundg k6
                                                    case measure => have := HJ4.out; have := HK2.out; have := HJ9.out; have := HJ15.out; have := HJ17.out; have := HK6.out; omega
                                                    case rel => exact ⟨(y209), (x6_6 ++ (rdOf ByteArray.empty l0 x7_2)), (wrap64 (x7_2 + 1)), (by first | rfl | (simp; done) | (simp [*]; done)), (by first | rfl | (simp; done) | (simp [*]; done)), H', ⟨by have := HJ4.out; have := HK2.out; have := HJ9.out; have := HJ15.out; have := HJ17.out; have := HK6.out; omega⟩, ⟨by (with_reducible repeat (first | apply Kd.R_alloc | apply Kd.R_drewN | apply Kd.R_drew)); exact HO211.out⟩, ⟨by repeat (first | (with_reducible first | exact HB.out | apply below_alloc | apply pw_below_drewN | apply below_drew1) | exact HB.out)⟩⟩
                                                  · rw [if_neg c42] at H
                                                    exact absurd H (by simp)
                                                · rw [if_neg c41] at H
                                                  exact absurd H (by simp)
                                              · rw [if_neg c40] at H
                                                exact absurd H (by simp)
                                            · rw [if_neg c39] at H
                                              exact absurd H (by simp)
                                          · rw [if_neg c38] at H
                                            exact absurd H (by simp)
                                        · rw [if_neg c37] at H
                                          exact absurd H (by simp)
                                    · rw [if_neg c27] at H
                                      have c27b0 : decide (0 < x7_2) = false := decide_eq_false c27
                                      clear c27
                                      by_cases c44 : 0 ≤ x7_2
                                      · rw [if_pos c44] at H
                                        have c44b0 : decide (0 ≤ x7_2) = true := decide_eq_true c44
                                        clear c44
                                        by_cases c45 : x7_2 < (l0.length : Int)
                                        · rw [if_pos c45] at H
                                          have c45b0 : decide (x7_2 < (l0.length : Int)) = true := decide_eq_true c45
                                          clear c45
                                          by_cases c46 : 2 + (rdOf ByteArray.empty l0 x7_2).size ≤ 9223372036854775807
                                          · rw [if_pos c46] at H
                                            (try (have c46v : (9223372036854775807 < 2 + (rdOf ByteArray.empty l0 x7_2).size) = False := eq_false (by have h_ := c46; simp only [ByteArray.size_append, ByteArray.size_extract] at h_; omega)))
                                            have c46b0 := eq_true c46
                                            have c46b1 : decide (2 + (rdOf ByteArray.empty l0 x7_2).size ≤ 9223372036854775807) = true := decide_eq_true c46
                                            try have c46b2 : (9223372036854775807 < 2 + (rdOf ByteArray.empty l0 x7_2).size) = False := eq_false (Nat.not_lt.2 c46)
                                            by_cases c47 : ((⟨#[32, 32]⟩ : ByteArray) ++ (rdOf ByteArray.empty l0 x7_2)).size + 1 ≤ 9223372036854775807
                                            · rw [if_pos c47] at H
                                              (try (have c47v : (9223372036854775807 < 2 + (rdOf ByteArray.empty l0 x7_2).size + 1) = False := eq_false (by have h_ := c47; simp only [ByteArray.size_append, ByteArray.size_extract] at h_; have y_0 : (⟨#[32, 32]⟩ : ByteArray).size = 2 := rfl; omega)))
                                              have c47b0 := eq_true c47
                                              have c47b1 : decide (((⟨#[32, 32]⟩ : ByteArray) ++ (rdOf ByteArray.empty l0 x7_2)).size + 1 ≤ 9223372036854775807) = true := decide_eq_true c47
                                              try have c47b2 : (9223372036854775807 < ((⟨#[32, 32]⟩ : ByteArray) ++ (rdOf ByteArray.empty l0 x7_2)).size + 1) = False := eq_false (Nat.not_lt.2 c47)
                                              by_cases c48 : x5_6.length < 8796093022208
                                              · rw [if_pos c48] at H
                                                have LMc48 := Aside0.mk c48
                                                clear c48
                                                obtain ⟨y214, hy214⟩ : ∃ y_ : List ByteArray, y_ = (x5_6 ++ [((⟨#[32, 32]⟩ : ByteArray) ++ (rdOf ByteArray.empty l0 x7_2)) ++ (⟨#[10]⟩ : ByteArray)]) := ⟨_, rfl⟩
                                                replace H : (if x6_6.size + (rdOf ByteArray.empty l0 x7_2).size ≤ 9223372036854775807 then (correctorlaw8_BlockFolds.l0 k6 l0 l1 y214 (x6_6 ++ (rdOf ByteArray.empty l0 x7_2)) (wrap64 (x7_2 + 1))) else (none)) = some r := by first | (rw [hy214]; with_reducible exact H) | (have H2_ := (Option.bind_some _ _).symm.trans H; rw [hy214]; with_reducible exact H2_) | (have H2_ := (Option.bind_some _ _).symm.trans H; with_reducible exact H2_) | with_reducible exact H | (rw [hy214]; exact H) | exact H
                                                have Ny214 := Aside0.mk hy214
                                                clear hy214
                                                by_cases c49 : x6_6.size + (rdOf ByteArray.empty l0 x7_2).size ≤ 9223372036854775807
                                                · rw [if_pos c49] at H
                                                  (try (have c49v : (9223372036854775807 < x6_6.size + (rdOf ByteArray.empty l0 x7_2).size) = False := eq_false (by have h_ := c49; simp only [ByteArray.size_append, ByteArray.size_extract] at h_; omega)))
                                                  have c49b0 := eq_true c49
                                                  have c49b1 : decide (x6_6.size + (rdOf ByteArray.empty l0 x7_2).size ≤ 9223372036854775807) = true := decide_eq_true c49
                                                  try have c49b2 : (9223372036854775807 < x6_6.size + (rdOf ByteArray.empty l0 x7_2).size) = False := eq_false (Nat.not_lt.2 c49)
                                                  have H' := Aside0.mk H
                                                  clear H
                                                  have p213 : 0 ≤ (x7_2 : Int) := of_decide_eq_true (by first | (with_reducible assumption) | assumption)
                                                  have q213 : x7_2 < (l0.length : Int) := of_decide_eq_true (by first | (with_reducible assumption) | assumption)
                                                  obtain ⟨ad213, e213, hx213_0⟩ := Kd.at_string HR0.out x7_2 p213 q213
                                                  cases e213
                                                  replace hx213_0 := (HB.out.cell (World.block_lt_of_cell? w _ hx213_0)).trans hx213_0
                                                  replace p213 := eq_true p213
                                                  replace q213 := eq_true q213
                                                  go_wp2_with (first | ((with_reducible refine gate_builtin (b := .append) (xs := #[.tmp 78, .tmp 85]) rfl ?_); (try (refine gate_guard (by rfl) ?_; dsimp only)); at_builtin; refine Kd.R_append Kd.string (w0 := w) w.heap.size rfl (.tmp 78) (.tmp 85) 22 9 (.string ⟨#[]⟩) 16 rfl Try.underlying22 info9 rfl (by decide) (by omega) u5 x5_6 (((⟨#[32, 32]⟩ : ByteArray) ++ (rdOf ByteArray.empty l0 x7_2)) ++ (⟨#[10]⟩ : ByteArray)) [.string (((⟨#[32, 32]⟩ : ByteArray) ++ (rdOf ByteArray.empty l0 x7_2)) ++ (⟨#[10]⟩ : ByteArray))] (fun _ => True) (fun _ => False) rfl rfl ?aP (fun _ hk => hk.elim) ?aF ?aO ?aB ?aS ?aL ?_; (case aP => exact rfl); (case aB => exact (by repeat (first | (with_reducible first | exact HB.out | apply below_alloc | apply pw_below_drewN | apply below_drew1) | exact HB.out))); (case aF => exact (fun _ _ => trivial)); (case aO => exact (by (with_reducible repeat (first | apply Kd.R_alloc | apply Kd.R_drewN | apply Kd.R_drew)); exact HO_5.out)); (case aS => exact (below_size (by repeat (first | (with_reducible first | exact HB.out | apply below_alloc | apply pw_below_drewN | apply below_drew1) | exact HB.out)))); (case aL => have := LMc48.out; omega); intro v215 w50 ho hb hg hat; rw [← Ny214.out] at ho; have n0_ := Aside0.mk (hb); have n1_ := Aside0.mk (ho); clear HB; clear HO_5; have HB := n0_; have HO216 := n1_; clear n0_ n1_; clear ho hb hg hat; have p217 : 0 ≤ (x7_2 : Int) := of_decide_eq_true (by first | (with_reducible assumption) | assumption); have q217 : x7_2 < (l0.length : Int) := of_decide_eq_true (by first | (with_reducible assumption) | assumption); obtain ⟨ad217, e217, hx217_0⟩ := Kd.at_string HR0.out x7_2 p217 q217; obtain rfl : ad213 = ad217 := (by injection e217); replace hx217_0 := (HB.out.cell (World.block_lt_of_cell? w _ hx217_0)).trans hx217_0; replace p217 := eq_true p217; replace q217 := eq_true q217))
                                                  go_roundg k6
                                                  case measure => have := HJ4.out; have := HK2.out; have := HJ9.out; have := HJ15.out; have := HJ17.out; have := HK6.out; omega
                                                  case rel => exact ⟨(y214), (x6_6 ++ (rdOf ByteArray.empty l0 x7_2)), (wrap64 (x7_2 + 1)), (by first | rfl | (simp; done) | (simp [*]; done)), (by first | rfl | (simp; done) | (simp [*]; done)), H', ⟨by have := HJ4.out; have := HK2.out; have := HJ9.out; have := HJ15.out; have := HJ17.out; have := HK6.out; omega⟩, ⟨by (with_reducible repeat (first | apply Kd.R_alloc | apply Kd.R_drewN | apply Kd.R_drew)); exact HO216.out⟩, ⟨by repeat (first | (with_reducible first | exact HB.out | apply below_alloc | apply pw_below_drewN | apply below_drew1) | exact HB.out)⟩⟩
                                                · rw [if_neg c49] at H
                                                  exact absurd H (by simp)
                                              · rw [if_neg c48] at H
                                                exact absurd H (by simp)
                                            · rw [if_neg c47] at H
                                              exact absurd H (by simp)
                                          · rw [if_neg c46] at H
                                            exact absurd H (by simp)
                                        · rw [if_neg c45] at H
                                          exact absurd H (by simp)
                                      · rw [if_neg c44] at H
                                        exact absurd H (by simp)
              · rw [if_neg c9] at H
                have c9b0 : decide (x7_2 < (l0.length : Int)) = false := decide_eq_false c9
                clear c9
                replace H := Option.bind_eq_some_iff.mp H
                obtain ⟨t192, A510, H⟩ := H
                replace H : (if t192.toList = x6_2.toList then ((block_Text.f k2 (⟨#[62]⟩ : ByteArray) x5_2).bind fun t193 => (if x6_2.size + 1 ≤ 9223372036854775807 then (some (t193.toList == (x6_2 ++ (⟨#[10]⟩ : ByteArray)).toList)) else (none))) else (some false)) = some r := H
                have A51 := Aside0.mk A510
                clear A510
                by_cases c52 : t192.toList = x6_2.toList
                · rw [if_pos c52] at H
                  have c52b0 : (t192.toList == x6_2.toList) = true := beq_iff_eq.mpr c52
                  have c52b1 : (t192.toList != x6_2.toList) = false := bne_eq_false_iff_eq.mpr c52
                  clear c52
                  replace H := Option.bind_eq_some_iff.mp H
                  obtain ⟨t193, A530, H⟩ := H
                  replace H : (if x6_2.size + 1 ≤ 9223372036854775807 then (some (t193.toList == (x6_2 ++ (⟨#[10]⟩ : ByteArray)).toList)) else (none)) = some r := H
                  have A53 := Aside0.mk A530
                  clear A530
                  by_cases c54 : x6_2.size + 1 ≤ 9223372036854775807
                  · rw [if_pos c54] at H
                    (try (have c54v : (9223372036854775807 < x6_2.size + 1) = False := eq_false (by have h_ := c54; simp only [ByteArray.size_append, ByteArray.size_extract] at h_; omega)))
                    have c54b0 := eq_true c54
                    have c54b1 : decide (x6_2.size + 1 ≤ 9223372036854775807) = true := decide_eq_true c54
                    try have c54b2 : (9223372036854775807 < x6_2.size + 1) = False := eq_false (Nat.not_lt.2 c54)
                    obtain rfl := Option.some.inj H
                    obtain ⟨Ao55, co55, eo55⟩ := Kd.R_slice HO_5.out
                    subst eo55
                    go_wp2_with (first | ((with_reducible refine gate_callee (f := 11) rfl ?_); refine goesL_ (some 94) rfl rfl Try.func11 (by kernel_rfl) rfl #[.string (⟨#[62, 45]⟩ : ByteArray), .slice Ao55 x5_2.length co55] rfl (by (try simp only [List.map_toArray, List.map_cons, List.map_nil]); first | done | rfl | (simp only [List.length_drop, List.length_take]; rfl) | (simp only [ByteArray.size_extract, Nat.min_self]; done) | (simp only [ByteArray.size_extract, Nat.min_self]; rfl)) ?_; (with_reducible refine (block_Text.calls k2 (⟨#[62, 45]⟩ : ByteArray) _ _ x5_2 t192 _ ?side1 ?side2 A51.out).mono ?_); (case side1 => repeat (first | exact (Kd.R_reads' HO_5.out).2.2 | (with_reducible refine Kd.C_alloc ?_ _) | (with_reducible refine Kd.C_drewN ?_ _) | (with_reducible refine Kd.C_drew ?_))); (case side2 => exact (Kd.R_reads' HO_5.out).2.1); rintro e w56 ⟨rfl, hb⟩; refine ⟨_, rfl, ?_⟩; have n0_ := Aside0.mk (Kd.R_below (by (with_reducible repeat (first | apply Kd.R_alloc | apply Kd.R_drewN | apply Kd.R_drew)); exact HO_5.out) hb); have n1_ := Aside0.mk (below_step (by repeat (first | (with_reducible first | exact HB.out | apply below_alloc | apply pw_below_drewN | apply below_drew1) | exact HB.out)) hb); clear HO_5; clear HB; have HO_5 := n0_; have HB := n1_; clear n0_ n1_; (try clear hb); (try clear hb2); (try clear hk); (try clear hi)) | (go_at_call 11; (with_reducible refine (block_Text.calls k2 (⟨#[62]⟩ : ByteArray) _ _ x5_2 t193 _ ?side1 ?side2 A53.out).mono ?_); (case side1 => repeat (first | exact (Kd.R_reads' HO_5.out).2.2 | (with_reducible refine Kd.C_alloc ?_ _) | (with_reducible refine Kd.C_drewN ?_ _) | (with_reducible refine Kd.C_drew ?_))); (case side2 => exact (Kd.R_reads' HO_5.out).2.1); rintro e w57 ⟨rfl, hb⟩; have n0_ := Aside0.mk (Kd.R_below (by (with_reducible repeat (first | apply Kd.R_alloc | apply Kd.R_drewN | apply Kd.R_drew)); exact HO_5.out) hb); have n1_ := Aside0.mk (below_step (by repeat (first | (with_reducible first | exact HB.out | apply below_alloc | apply pw_below_drewN | apply below_drew1) | exact HB.out)) hb); clear HO_5; clear HB; have HO_5 := n0_; have HB := n1_; clear n0_ n1_; (try clear hb); (try clear hb2); (try clear hk); (try clear hi)))
                    go_ret
                    exact ⟨by first | rfl | (simp [errW_none, errW_some] <;> rfl) | (simp [*, errW_none, errW_some] <;> rfl), by repeat (first | (with_reducible first | exact HB.out | apply below_alloc | apply pw_below_drewN | apply below_drew1) | exact HB.out)⟩
                  · rw [if_neg c54] at H
                    exact absurd H (by simp)
                · rw [if_neg c52] at H
                  have c52b0 : (t192.toList == x6_2.toList) = false := beq_eq_false_iff_ne.mpr c52
                  have c52b1 : (t192.toList != x6_2.toList) = true := bne_iff_ne.mpr c52
                  obtain rfl := Option.some.inj H
                  obtain ⟨Ao58, co58, eo58⟩ := Kd.R_slice HO_5.out
                  subst eo58
                  go_wp2_with (first | ((with_reducible refine gate_callee (f := 11) rfl ?_); refine goesL_ (some 94) rfl rfl Try.func11 (by kernel_rfl) rfl #[.string (⟨#[62, 45]⟩ : ByteArray), .slice Ao58 x5_2.length co58] rfl (by (try simp only [List.map_toArray, List.map_cons, List.map_nil]); first | done | rfl | (simp only [List.length_drop, List.length_take]; rfl) | (simp only [ByteArray.size_extract, Nat.min_self]; done) | (simp only [ByteArray.size_extract, Nat.min_self]; rfl)) ?_; (with_reducible refine (block_Text.calls k2 (⟨#[62, 45]⟩ : ByteArray) _ _ x5_2 t192 _ ?side1 ?side2 A51.out).mono ?_); (case side1 => repeat (first | exact (Kd.R_reads' HO_5.out).2.2 | (with_reducible refine Kd.C_alloc ?_ _) | (with_reducible refine Kd.C_drewN ?_ _) | (with_reducible refine Kd.C_drew ?_))); (case side2 => exact (Kd.R_reads' HO_5.out).2.1); rintro e w59 ⟨rfl, hb⟩; refine ⟨_, rfl, ?_⟩; have n0_ := Aside0.mk (Kd.R_below (by (with_reducible repeat (first | apply Kd.R_alloc | apply Kd.R_drewN | apply Kd.R_drew)); exact HO_5.out) hb); have n1_ := Aside0.mk (below_step (by repeat (first | (with_reducible first | exact HB.out | apply below_alloc | apply pw_below_drewN | apply below_drew1) | exact HB.out)) hb); clear HO_5; clear HB; have HO_5 := n0_; have HB := n1_; clear n0_ n1_; (try clear hb); (try clear hb2); (try clear hk); (try clear hi)))
                  go_ret
                  exact ⟨by first | rfl | (simp [errW_none, errW_some] <;> rfl) | (simp [*, errW_none, errW_some] <;> rfl), by repeat (first | (with_reducible first | exact HB.out | apply below_alloc | apply pw_below_drewN | apply below_drew1) | exact HB.out)⟩
  · replace c4 := Bool.eq_false_iff.mpr c4
    subst c4
    have H1 : (some false) = some r := by rw [if_neg (show ¬ (false = true) by decide)] at H; exact H
    clear H
    have H := H1
    clear H1
    obtain rfl := Option.some.inj H
    go_enter Try.func4, Try.ntmps4
    go_wp2_with (first | ((with_reducible refine gate_callee (f := 8) rfl ?_); refine goesL_ (some 10) rfl rfl Try.func8 (by kernel_rfl) rfl #[] rfl (by (try simp only [List.map_toArray, List.map_cons, List.map_nil]); first | done | rfl | (simp only [List.length_drop, List.length_take]; rfl) | (simp only [ByteArray.size_extract, Nat.min_self]; done) | (simp only [ByteArray.size_extract, Nat.min_self]; rfl)) ?_; (with_reducible refine (correctorlaw8_known.calls k  false _ A3.out).mono ?_); rintro e w60 ⟨rfl, hb⟩; refine ⟨_, rfl, ?_⟩; have n0_ := Aside0.mk (below_step (by repeat (first | (with_reducible first | exact HB.out | apply below_alloc | apply pw_below_drewN | apply below_drew1) | exact HB.out)) hb); clear HB; have HB := n0_; clear n0_; (try clear hb); (try clear hb2); (try clear hk); (try clear hi)))
    go_ret
    exact ⟨by first | rfl | (simp [errW_none, errW_some] <;> rfl) | (simp [*, errW_none, errW_some] <;> rfl), by repeat (first | (with_reducible first | exact HB.out | apply below_alloc | apply pw_below_drewN | apply below_drew1) | exact HB.out)⟩

/-- THE ONE PURE STATEMENT of correctorlaw8_BlockFolds: yours. -/
def correctorlaw8_BlockFolds.Pure : Prop := ∀ (l0 : List ByteArray) (l1 : List Int), l0.length ≤ maxLen → l0.length * 16 ≤ 140737488351232 → (∀ x ∈ l0, x.size ≤ 140737488351232) → l1.length ≤ maxLen → l1.length * 8 ≤ 140737488351232 → (∀ x ∈ l1, (Lit.int .i64 x).wf = true) → ∃ k, correctorlaw8_BlockFolds.f k l0 l1 = some true
theorem correctorlaw8_BlockFolds.walk (P : correctorlaw8_BlockFolds.Pure) (a0 : Option Addr) (cap0 : Nat) (l0 : List ByteArray) (a1 : Option Addr) (len1 cap1 : Nat) (z1 : List Int) (w : World) (w0 : Kd.string.C w a0 l0.length l0) (y0 : l0.length ≤ cap0) (m0 : l0.length ≤ maxLen) (n0 : l0.length * 16 ≤ 140737488351232) (s0 : ∀ x ∈ l0, x.size ≤ 140737488351232) (w1 : (a1 = none ∧ len1 = 0 ∧ cap1 = 0 ∧ z1 = []) ∨ ∃ x, a1 = some x ∧ len1 ≤ cap1 ∧ cap1 ≤ maxLen ∧ z1.length = cap1 ∧ (∀ i, i < z1.length → w.cell? (x.add i) = some (.int .i64 (z1.getD i 0))) ∧ ∀ n ∈ z1, (Lit.int .i64 n).wf = true) (y1 : len1 * 8 ≤ 140737488351232) :
    Calls Try.prog 4 #[.slice a0 l0.length cap0, .slice a1 len1 cap1] w fun e w' => e = .returned (.bool true) ∧ Below w.heap.size w w' := by
  obtain ⟨l1, rfl, hr1, hm1, hw1, hc1⟩ := ReadsInt.ofRowC w1
  obtain ⟨k, h⟩ := P l0 l1 m0 n0 s0 hm1 y1 hw1
  refine (correctorlaw8_BlockFolds.calls k _ _ l0 _ _ l1 true w w0 y0 (Kd.C_of_reads (d := (0 : Int)) (h1 := fun _ => rfl) hr1) hc1 h).mono ?_
  rintro e w' ⟨rfl, hd⟩
  exact ⟨rfl, hd⟩

end Go.Proofs.Ytpinegfbcbfnoaa.Q
