/- Proved here, in the forms of the print's contracts: what each Go function answers, and the rows of the laws over it; by a program and by hand. -/
import Derived.Test.YtpinegfbcbfnoaaQ0
import Derived.Test.YtpinegfbcbfnoaaQblock
import Derived.Test.YtpinegfbcbfnoaaQcorrectorlaw8
namespace Go.Proofs.Ytpinegfbcbfnoaa.Q
open Go.RowKit Go.Proofs.YtpinegfbcbfnoaaW.PrintWords Go.Proofs.YtpinegfbcbfnoaaW.PrintLast Go.Proofs.YtpinegfbcbfnoaaW.PrintMore
attribute [local go_sem] max2_int min2_int max_two min_two max_three min_three max_four min_four   -- for this text's walks alone
set_option linter.unusedVariables false
set_option linter.unusedSimpArgs false

/-! ### correctorlaw8_BlockIndent: function 7 -/
mutual
def correctorlaw8_BlockIndent.l0 : Nat → List Int → Int → Int → List ByteArray → List ByteArray → Int → Option (Bool)
  | 0, _, _, _, _, _, _ => none
  | k + 1, x0, x1, x2, x7, x8, x9 => if x9 < (x0.length : Int) then (correctorlaw8_BlockIndent.j1 k x0 x1 x2 x7 x8 x9 (decide (x9 < 15))) else (correctorlaw8_BlockIndent.j1 k x0 x1 x2 x7 x8 x9 false)
def correctorlaw8_BlockIndent.j1 : Nat → List Int → Int → Int → List ByteArray → List ByteArray → Int → Bool → Option (Bool)
  | 0, _, _, _, _, _, _, _ => none
  | k + 1, x0, x1, x2, x7, x8, x9, x25 => if x25 = true then (if 0 ≤ x9 then (if x9 < (x0.length : Int) then ((correctorlaw8_within.f (rd x0 x9) 5).bind fun t255 => (if 0 ≤ t255 then (if t255 ≤ 6 then ((some (([(⟨#[97]⟩ : ByteArray), (⟨#[98, 32, 99]⟩ : ByteArray), (⟨#[45, 32, 100]⟩ : ByteArray), (⟨#[101]⟩ : ByteArray)] : List ByteArray) : List ByteArray)).bind fun y256 => ((correctorlaw8_within.f (wrap64 (Int.tdiv (rd x0 x9) 5)) 4).bind fun t260 => (if 0 ≤ t260 then (if t260 < (y256.length : Int) then (if ((⟨#[32, 32, 32, 32, 32, 32]⟩ : ByteArray).extract 0 (t255 : Int).toNat).size + (rdOf ByteArray.empty y256 t260).size ≤ 9223372036854775807 then (if (((⟨#[32, 32, 32, 32, 32, 32]⟩ : ByteArray).extract 0 (t255 : Int).toNat) ++ (rdOf ByteArray.empty y256 t260)).size + 1 ≤ 9223372036854775807 then ((some (([(((⟨#[32, 32, 32, 32, 32, 32]⟩ : ByteArray).extract 0 (t255 : Int).toNat) ++ (rdOf ByteArray.empty y256 t260)) ++ (⟨#[10]⟩ : ByteArray)] : List ByteArray) : List ByteArray)).bind fun y262 => (if x7.length + y262.length < 8796093022208 then (if 0 ≤ x1 then (if x1 ≤ 9 then (if ((⟨#[32, 32, 32, 32, 32, 32, 32, 32, 32]⟩ : ByteArray).extract 0 (x1 : Int).toNat).size + ((((⟨#[32, 32, 32, 32, 32, 32]⟩ : ByteArray).extract 0 (t255 : Int).toNat) ++ (rdOf ByteArray.empty y256 t260)) ++ (⟨#[10]⟩ : ByteArray)).size ≤ 9223372036854775807 then ((some (([((⟨#[32, 32, 32, 32, 32, 32, 32, 32, 32]⟩ : ByteArray).extract 0 (x1 : Int).toNat) ++ ((((⟨#[32, 32, 32, 32, 32, 32]⟩ : ByteArray).extract 0 (t255 : Int).toNat) ++ (rdOf ByteArray.empty y256 t260)) ++ (⟨#[10]⟩ : ByteArray))] : List ByteArray) : List ByteArray)).bind fun y268 => (if x8.length + y268.length < 8796093022208 then (correctorlaw8_BlockIndent.l0 k x0 x1 x2 (x7 ++ y262) (x8 ++ y268) (wrap64 (x9 + 1))) else (none))) else (none)) else (none)) else (none)) else (none))) else (none)) else (none)) else (none)) else (none)))) else (none)) else (none))) else (none)) else (none)) else ((some (([(⟨#[124]⟩ : ByteArray), (⟨#[62]⟩ : ByteArray), (⟨#[124, 45]⟩ : ByteArray), (⟨#[62, 45]⟩ : ByteArray), (⟨#[124, 43]⟩ : ByteArray), (⟨#[62, 43]⟩ : ByteArray)] : List ByteArray) : List ByteArray)).bind fun y274 => ((correctorlaw8_within.f x2 6).bind fun t277 => (if 0 ≤ t277 then (if t277 < (y274.length : Int) then (if (x0.length : Int) > 0 then (if 0 < (x0.length : Int) then ((correctorlaw8_within.f (rd x0 0) 5).bind fun t280 => (correctorlaw8_BlockIndent.j2 k x0 x7 x8 (rdOf ByteArray.empty y274 t277) t280)) else (none)) else (correctorlaw8_BlockIndent.j2 k x0 x7 x8 (rdOf ByteArray.empty y274 t277) 9)) else (none)) else (none))))
def correctorlaw8_BlockIndent.j2 : Nat → List Int → List ByteArray → List ByteArray → ByteArray → Int → Option (Bool)
  | 0, _, _, _, _, _ => none
  | k + 1, x0, x7, x8, x11, x12 => correctorlaw8_BlockIndent.l1 k x0 x7 x8 x11 x12 0
def correctorlaw8_BlockIndent.l1 : Nat → List Int → List ByteArray → List ByteArray → ByteArray → Int → Int → Option (Bool)
  | 0, _, _, _, _, _, _ => none
  | k + 1, x0, x7, x8, x11, x12, x13 => if x13 < (x7.length : Int) then (if 0 ≤ x13 then (if x13 < (x0.length : Int) then ((correctorlaw8_within.f (rd x0 x13) 5).bind fun t282 => (if t282 < x12 then (some true) else (correctorlaw8_BlockIndent.l1 k x0 x7 x8 x11 x12 (wrap64 (x13 + 1))))) else (none)) else (none)) else ((block_Text.f k x11 x7).bind fun t283 => ((block_Text.f k x11 x8).bind fun t284 => (some (t283.toList == t284.toList))))
end
def correctorlaw8_BlockIndent.f (k : Nat) (l0 : List Int) (a1 : Int) (a2 : Int) : Option (Bool) := (correctorlaw8_known.f k).bind fun t252 => (if t252 = true then ((correctorlaw8_within.f a1 9).bind fun t253 => (correctorlaw8_BlockIndent.l0 k l0 t253 a2 ([] : List ByteArray) ([] : List ByteArray) 0)) else (some false))
theorem correctorlaw8_BlockIndent.mono_l : ∀ k, (∀ y0 y1 y2 y3 y4 y5, LeO (correctorlaw8_BlockIndent.l0 k y0 y1 y2 y3 y4 y5) (correctorlaw8_BlockIndent.l0 (k + 1) y0 y1 y2 y3 y4 y5)) ∧ (∀ y0 y1 y2 y3 y4 y5 y6, LeO (correctorlaw8_BlockIndent.j1 k y0 y1 y2 y3 y4 y5 y6) (correctorlaw8_BlockIndent.j1 (k + 1) y0 y1 y2 y3 y4 y5 y6)) ∧ (∀ y0 y1 y2 y3 y4, LeO (correctorlaw8_BlockIndent.j2 k y0 y1 y2 y3 y4) (correctorlaw8_BlockIndent.j2 (k + 1) y0 y1 y2 y3 y4)) ∧ (∀ y0 y1 y2 y3 y4 y5, LeO (correctorlaw8_BlockIndent.l1 k y0 y1 y2 y3 y4 y5) (correctorlaw8_BlockIndent.l1 (k + 1) y0 y1 y2 y3 y4 y5))
  | 0 => ⟨fun _ _ _ _ _ _ r h => by simp [correctorlaw8_BlockIndent.l0] at h, fun _ _ _ _ _ _ _ r h => by simp [correctorlaw8_BlockIndent.j1] at h, fun _ _ _ _ _ r h => by simp [correctorlaw8_BlockIndent.j2] at h, fun _ _ _ _ _ _ r h => by simp [correctorlaw8_BlockIndent.l1] at h⟩
  | k + 1 => by
    obtain ⟨ih0, ih1, ih2, ih3⟩ := correctorlaw8_BlockIndent.mono_l k
    refine ⟨?_, ?_, ?_, ?_⟩
    · intro y0 y1 y2 y3 y4 y5
      unfold correctorlaw8_BlockIndent.l0
      repeat' first
      | (with_reducible exact ih0 _ _ _ _ _ _)
      | (with_reducible exact ih1 _ _ _ _ _ _ _)
      | (with_reducible exact ih2 _ _ _ _ _)
      | (with_reducible exact ih3 _ _ _ _ _ _)
      | (with_reducible exact block_Text.mono _ _ _)
      | (with_reducible exact correctorlaw8_known.mono _)
      | (with_reducible exact LeO.refl _)
      | (with_reducible exact LeO.none _)
      | (with_reducible refine LeO.ite ?_ ?_)
      | (with_reducible refine LeO.bind ?_ (fun _ => ?_))
      | exact ih0 _ _ _ _ _ _
      | exact ih1 _ _ _ _ _ _ _
      | exact ih2 _ _ _ _ _
      | exact ih3 _ _ _ _ _ _
      | exact block_Text.mono _ _ _
      | exact correctorlaw8_known.mono _
      | exact LeO.none _
      | refine LeO.ite ?_ ?_
      | refine LeO.bind ?_ (fun _ => ?_)
    · intro y0 y1 y2 y3 y4 y5 y6
      unfold correctorlaw8_BlockIndent.j1
      repeat' first
      | (with_reducible exact ih0 _ _ _ _ _ _)
      | (with_reducible exact ih1 _ _ _ _ _ _ _)
      | (with_reducible exact ih2 _ _ _ _ _)
      | (with_reducible exact ih3 _ _ _ _ _ _)
      | (with_reducible exact block_Text.mono _ _ _)
      | (with_reducible exact correctorlaw8_known.mono _)
      | (with_reducible exact LeO.refl _)
      | (with_reducible exact LeO.none _)
      | (with_reducible refine LeO.ite ?_ ?_)
      | (with_reducible refine LeO.bind ?_ (fun _ => ?_))
      | exact ih0 _ _ _ _ _ _
      | exact ih1 _ _ _ _ _ _ _
      | exact ih2 _ _ _ _ _
      | exact ih3 _ _ _ _ _ _
      | exact block_Text.mono _ _ _
      | exact correctorlaw8_known.mono _
      | exact LeO.none _
      | refine LeO.ite ?_ ?_
      | refine LeO.bind ?_ (fun _ => ?_)
    · intro y0 y1 y2 y3 y4
      unfold correctorlaw8_BlockIndent.j2
      repeat' first
      | (with_reducible exact ih0 _ _ _ _ _ _)
      | (with_reducible exact ih1 _ _ _ _ _ _ _)
      | (with_reducible exact ih2 _ _ _ _ _)
      | (with_reducible exact ih3 _ _ _ _ _ _)
      | (with_reducible exact block_Text.mono _ _ _)
      | (with_reducible exact correctorlaw8_known.mono _)
      | (with_reducible exact LeO.refl _)
      | (with_reducible exact LeO.none _)
      | (with_reducible refine LeO.ite ?_ ?_)
      | (with_reducible refine LeO.bind ?_ (fun _ => ?_))
      | exact ih0 _ _ _ _ _ _
      | exact ih1 _ _ _ _ _ _ _
      | exact ih2 _ _ _ _ _
      | exact ih3 _ _ _ _ _ _
      | exact block_Text.mono _ _ _
      | exact correctorlaw8_known.mono _
      | exact LeO.none _
      | refine LeO.ite ?_ ?_
      | refine LeO.bind ?_ (fun _ => ?_)
    · intro y0 y1 y2 y3 y4 y5
      unfold correctorlaw8_BlockIndent.l1
      repeat' first
      | (with_reducible exact ih0 _ _ _ _ _ _)
      | (with_reducible exact ih1 _ _ _ _ _ _ _)
      | (with_reducible exact ih2 _ _ _ _ _)
      | (with_reducible exact ih3 _ _ _ _ _ _)
      | (with_reducible exact block_Text.mono _ _ _)
      | (with_reducible exact correctorlaw8_known.mono _)
      | (with_reducible exact LeO.refl _)
      | (with_reducible exact LeO.none _)
      | (with_reducible refine LeO.ite ?_ ?_)
      | (with_reducible refine LeO.bind ?_ (fun _ => ?_))
      | exact ih0 _ _ _ _ _ _
      | exact ih1 _ _ _ _ _ _ _
      | exact ih2 _ _ _ _ _
      | exact ih3 _ _ _ _ _ _
      | exact block_Text.mono _ _ _
      | exact correctorlaw8_known.mono _
      | exact LeO.none _
      | refine LeO.ite ?_ ?_
      | refine LeO.bind ?_ (fun _ => ?_)
theorem correctorlaw8_BlockIndent.mono : ∀ a0 a1 a2 k, LeO (correctorlaw8_BlockIndent.f k a0 a1 a2) (correctorlaw8_BlockIndent.f (k + 1) a0 a1 a2) := by
  intro a0 a1 a2 k
  obtain ⟨ih0, ih1, ih2, ih3⟩ := correctorlaw8_BlockIndent.mono_l k
  unfold correctorlaw8_BlockIndent.f
  repeat' first
      | (with_reducible exact ih0 _ _ _ _ _ _)
      | (with_reducible exact ih1 _ _ _ _ _ _ _)
      | (with_reducible exact ih2 _ _ _ _ _)
      | (with_reducible exact ih3 _ _ _ _ _ _)
      | (with_reducible exact block_Text.mono _ _ _)
      | (with_reducible exact correctorlaw8_known.mono _)
      | (with_reducible exact LeO.refl _)
      | (with_reducible exact LeO.none _)
      | (with_reducible refine LeO.ite ?_ ?_)
      | (with_reducible refine LeO.bind ?_ (fun _ => ?_))
      | exact ih0 _ _ _ _ _ _
      | exact ih1 _ _ _ _ _ _ _
      | exact ih2 _ _ _ _ _
      | exact ih3 _ _ _ _ _ _
      | exact block_Text.mono _ _ _
      | exact correctorlaw8_known.mono _
      | exact LeO.none _
      | refine LeO.ite ?_ ?_
      | refine LeO.bind ?_ (fun _ => ?_)
def correctorlaw8_BlockIndent.T8 : Bool × List (List Nat × List Nat) := (true, [([], []), ([], []), ([0, 1], [0, 1]), ([2], [2]), ([3], [3]), ([4], [4]), ([], []), ([], []), ([], []), ([7, 8], [7, 8]), ([9], [9]), ([10], [10]), ([11, 4], [11]), ([6, 12], [6, 12]), ([13], [13]), ([5, 14], [5, 14]), ([15], [15]), ([16, 12, 0, 1, 2, 3, 4, 5, 6, 7, 8, 9, 10, 11, 12, 13, 14, 15, 16], [16])])
def correctorlaw8_BlockIndent.B8 : List Nat := [0, 0, 3, 7, 15, 31, 0, 0, 0, 384, 896, 1920, 3999, 8159, 16351, 32767, 65535, 131071]
theorem correctorlaw8_BlockIndent.tab8 : rtab .any (opsOf Try.f7 8) = correctorlaw8_BlockIndent.T8 := by kernel_rfl
theorem correctorlaw8_BlockIndent.bits8 : waitsOk correctorlaw8_BlockIndent.T8.2 correctorlaw8_BlockIndent.B8 = true := by kernel_rfl
def correctorlaw8_BlockIndent.T9 : Bool × List (List Nat × List Nat) := (true, [([], []), ([], []), ([1], [1]), ([0, 2], [0, 2]), ([], []), ([], []), ([5], [5]), ([], []), ([6, 7], [6, 7]), ([8], [8]), ([4, 9, 3], [4, 9]), ([3, 10, 0, 1, 2, 3], [0, 3]), ([10, 11, 0, 1, 2, 3, 4, 5, 6, 7, 8, 9, 10, 11], [4, 10])])
def correctorlaw8_BlockIndent.B9 : List Nat := [0, 0, 2, 7, 0, 0, 32, 0, 224, 480, 1023, 2047, 4095]
theorem correctorlaw8_BlockIndent.tab9 : rtab .any (opsOf Try.f7 9) = correctorlaw8_BlockIndent.T9 := by kernel_rfl
theorem correctorlaw8_BlockIndent.bits9 : waitsOk correctorlaw8_BlockIndent.T9.2 correctorlaw8_BlockIndent.B9 = true := by kernel_rfl
set_option maxHeartbeats 8000000 in
set_option maxRecDepth 100000 in
theorem correctorlaw8_BlockIndent.calls (k : Nat) (A0 : Option Addr) (c0 : Nat) (l0 : List Int) (a1 : Int) (a2 : Int) (r : Bool) (w : World) (hr0 : Kd.C (Kd.int .i64) w A0 l0.length l0) (hc0 : l0.length ≤ c0) (h : correctorlaw8_BlockIndent.f k l0 a1 a2 = some r) :
    Calls Try.prog 7 #[.slice A0 l0.length c0, .int .i64 a1, .int .i64 a2] w fun e w' => e = .returned (.bool r) ∧ Below w.heap.size w w' := by
  have HR0 := Aside0.mk hr0
  have HC0 := Aside0.mk hc0
  clear hr0 hc0
  have HB := Aside0.mk (Below.refl w.heap.size w)
  have H : ((correctorlaw8_known.f k).bind fun t252 => (if t252 = true then ((correctorlaw8_within.f a1 9).bind fun t253 => (correctorlaw8_BlockIndent.l0 k l0 t253 a2 ([] : List ByteArray) ([] : List ByteArray) 0)) else (some false))) = some r := h
  clear h
  replace H := Option.bind_eq_some_iff.mp H
  obtain ⟨t252, A40, H⟩ := H
  replace H : (if t252 = true then ((correctorlaw8_within.f a1 9).bind fun t253 => (correctorlaw8_BlockIndent.l0 k l0 t253 a2 ([] : List ByteArray) ([] : List ByteArray) 0)) else (some false)) = some r := H
  have A4 := Aside0.mk A40
  clear A40
  by_cases c5 : t252 = true
  · subst c5
    have H1 : ((correctorlaw8_within.f a1 9).bind fun t253 => (correctorlaw8_BlockIndent.l0 k l0 t253 a2 ([] : List ByteArray) ([] : List ByteArray) 0)) = some r := by rw [if_pos rfl] at H; exact H
    clear H
    have H := H1
    clear H1
    replace H := Option.bind_eq_some_iff.mp H
    obtain ⟨t253, A60, H⟩ := H
    replace H : (correctorlaw8_BlockIndent.l0 k l0 t253 a2 ([] : List ByteArray) ([] : List ByteArray) 0) = some r := H
    have A6 := Aside0.mk A60
    clear A60
    have H' := Aside0.mk H
    clear H
    go_enter Try.func7, Try.ntmps7
    go_wp2_with (first | ((with_reducible refine gate_callee (f := 8) rfl ?_); refine goesL_ (some 14) rfl rfl Try.func8 (by kernel_rfl) rfl #[] rfl (by (try simp only [List.map_toArray, List.map_cons, List.map_nil]); first | done | rfl | (simp only [List.length_drop, List.length_take]; rfl) | (simp only [ByteArray.size_extract, Nat.min_self]; done) | (simp only [ByteArray.size_extract, Nat.min_self]; rfl)) ?_; (with_reducible refine (correctorlaw8_known.calls k  true _ A4.out).mono ?_); rintro e w7 ⟨rfl, hb⟩; refine ⟨_, rfl, ?_⟩; have n0_ := Aside0.mk (below_step (by repeat (first | (with_reducible first | exact HB.out | apply below_alloc | apply pw_below_drewN | apply below_drew1) | exact HB.out)) hb); clear HB; have HB := n0_; clear n0_; (try clear hb); (try clear hb2); (try clear hk); (try clear hi)) | ((with_reducible refine gate_callee (f := 10) rfl ?_); refine goesL_ (some 17) rfl rfl Try.func10 (by kernel_rfl) rfl #[.int .i64 a1, .int .i64 9] rfl (by (try simp only [List.map_toArray, List.map_cons, List.map_nil]); first | done | rfl | (simp only [List.length_drop, List.length_take]; rfl) | (simp only [ByteArray.size_extract, Nat.min_self]; done) | (simp only [ByteArray.size_extract, Nat.min_self]; rfl)) ?_; (with_reducible refine (correctorlaw8_within.calls a1 9 t253 _ A6.out).mono ?_); rintro e w' ⟨rfl, ⟨nd, rfl⟩⟩; refine ⟨_, rfl, ?_⟩))
    go_loopg [7, 8, 9] k (fun kq v7 v8 v9 w' => ∃ (x7_1 : List ByteArray) (x8_1 : List ByteArray) (x9_1 : Int), v9 = .int .i64 x9_1 ∧ Aside0 (correctorlaw8_BlockIndent.l0 kq l0 t253 a2 x7_1 x8_1 x9_1 = some r) ∧ Aside0 (kq ≤ k) ∧ Aside0 (Kd.R Kd.string 9 w' w.heap.size (fun k_ => some k_ ≠ (v8 : Value).ownBlock) v7 x7_1) ∧ Aside0 (Kd.R Kd.string 9 w' w.heap.size (fun k_ => some k_ ≠ (v7 : Value).ownBlock) v8 x8_1) ∧ Aside0 (Below w.heap.size w w'))
    case atStart => exact ⟨(([] : List ByteArray)), (([] : List ByteArray)), (0), (by first | rfl | (simp; done) | (simp [*]; done)), H', ⟨Nat.le_refl _⟩, ⟨by first | exact Kd.R_nil _ _ _ _ _ | exact Kd.N_nil _ _ _ _ _ | exact Kd.V_nil _ _ _ _ _ | exact Kd.Q_nil _ _ _ _ _ | exact Kd.S_nil _ _ _ _ _⟩, ⟨by first | exact Kd.R_nil _ _ _ _ _ | exact Kd.N_nil _ _ _ _ _ | exact Kd.V_nil _ _ _ _ _ | exact Kd.Q_nil _ _ _ _ _ | exact Kd.S_nil _ _ _ _ _⟩, ⟨by repeat (first | (with_reducible first | exact HB.out | apply below_alloc | apply pw_below_drewN | apply below_drew1) | exact HB.out)⟩⟩
    case round =>
      clear H'
      try clear c1
      try clear p2
      try clear c5
      try clear c7
      obtain ⟨x7_1, x8_1, x9_1, rfl, HA, HK1, HO_7, HO_8, HB⟩ := hrel
      cases gk with
      | zero => exact absurd HA.out (by simp [correctorlaw8_BlockIndent.l0])
      | succ k1 =>
        have H := HA.out
        clear HA
        simp only [correctorlaw8_BlockIndent.l0] at H
        have HC8 := Aside0.mk H
        clear H
        go_upto_region 6 with (fail)
        go_cut [25] (fun v25 wc => ∃ (kq : Nat) (x25_7 : Bool), v25 = .bool x25_7 ∧ Aside0 (correctorlaw8_BlockIndent.j1 kq l0 t253 a2 x7_1 x8_1 x9_1 x25_7 = some r) ∧ Aside0 (kq ≤ k1) ∧ Aside0 (Kd.R Kd.string 9 wc w.heap.size (fun k_ => some k_ ≠ (u8 : Value).ownBlock) u7 x7_1) ∧ Aside0 (Kd.R Kd.string 9 wc w.heap.size (fun k_ => some k_ ≠ (u7 : Value).ownBlock) u8 x8_1) ∧ Aside0 (Below w.heap.size w wc))
        case first =>
          have H := HC8.out
          clear HC8
          by_cases c9 : x9_1 < (l0.length : Int)
          · rw [if_pos c9] at H
            have c9b0 : decide (x9_1 < (l0.length : Int)) = true := decide_eq_true c9
            clear c9
            (first | rw [c9b0] | (simp only [i64_w, i32_w]; rw [c9b0]) | rw [c9b1] | skip)
            have H' := Aside0.mk H
            clear H
            go_wp2
            go_meet
            case rel => exact ⟨_, (decide (x9_1 < 15)), (by first | rfl | (simp; done) | (simp [*]; done)), H', ⟨by have := HK1.out; first | omega | exact Nat.le_refl _⟩, ⟨by (with_reducible repeat (first | apply Kd.R_alloc | apply Kd.R_drewN | apply Kd.R_drew)); exact HO_7.out⟩, ⟨by (with_reducible repeat (first | apply Kd.R_alloc | apply Kd.R_drewN | apply Kd.R_drew)); exact HO_8.out⟩, ⟨by repeat (first | (with_reducible first | exact HB.out | apply below_alloc | apply pw_below_drewN | apply below_drew1) | exact HB.out)⟩⟩
          · rw [if_neg c9] at H
            have c9b0 : decide (x9_1 < (l0.length : Int)) = false := decide_eq_false c9
            clear c9
            (first | rw [c9b0] | (simp only [i64_w, i32_w]; rw [c9b0]) | rw [c9b1] | skip)
            have H' := Aside0.mk H
            clear H
            go_wp2
            go_meet
            case rel => exact ⟨_, (false), (by first | rfl | (simp; done) | (simp [*]; done)), H', ⟨by have := HK1.out; first | omega | exact Nat.le_refl _⟩, ⟨by (with_reducible repeat (first | apply Kd.R_alloc | apply Kd.R_drewN | apply Kd.R_drew)); exact HO_7.out⟩, ⟨by (with_reducible repeat (first | apply Kd.R_alloc | apply Kd.R_drewN | apply Kd.R_drew)); exact HO_8.out⟩, ⟨by repeat (first | (with_reducible first | exact HB.out | apply below_alloc | apply pw_below_drewN | apply below_drew1) | exact HB.out)⟩⟩
        case rest =>
          clear HC8
          try clear c1
          try clear p2
          try clear c5
          try clear c7
          try clear c8
          try clear c9
          try clear c9b0
          try clear c9b1
          try clear p2
          obtain ⟨kq, x25_7, rfl, HA, HJ7, HO_7, HO_8, HB⟩ := hcut
          cases kq with
          | zero => exact absurd HA.out (by simp [correctorlaw8_BlockIndent.j1])
          | succ kj7 =>
            have H := HA.out
            clear HA
            simp only [correctorlaw8_BlockIndent.j1] at H
            by_cases c10 : x25_7 = true
            · subst c10
              have H1 : (if 0 ≤ x9_1 then (if x9_1 < (l0.length : Int) then ((correctorlaw8_within.f (rd l0 x9_1) 5).bind fun t255 => (if 0 ≤ t255 then (if t255 ≤ 6 then ((some (([(⟨#[97]⟩ : ByteArray), (⟨#[98, 32, 99]⟩ : ByteArray), (⟨#[45, 32, 100]⟩ : ByteArray), (⟨#[101]⟩ : ByteArray)] : List ByteArray) : List ByteArray)).bind fun y256 => ((correctorlaw8_within.f (wrap64 (Int.tdiv (rd l0 x9_1) 5)) 4).bind fun t260 => (if 0 ≤ t260 then (if t260 < (y256.length : Int) then (if ((⟨#[32, 32, 32, 32, 32, 32]⟩ : ByteArray).extract 0 (t255 : Int).toNat).size + (rdOf ByteArray.empty y256 t260).size ≤ 9223372036854775807 then (if (((⟨#[32, 32, 32, 32, 32, 32]⟩ : ByteArray).extract 0 (t255 : Int).toNat) ++ (rdOf ByteArray.empty y256 t260)).size + 1 ≤ 9223372036854775807 then ((some (([(((⟨#[32, 32, 32, 32, 32, 32]⟩ : ByteArray).extract 0 (t255 : Int).toNat) ++ (rdOf ByteArray.empty y256 t260)) ++ (⟨#[10]⟩ : ByteArray)] : List ByteArray) : List ByteArray)).bind fun y262 => (if x7_1.length + y262.length < 8796093022208 then (if 0 ≤ t253 then (if t253 ≤ 9 then (if ((⟨#[32, 32, 32, 32, 32, 32, 32, 32, 32]⟩ : ByteArray).extract 0 (t253 : Int).toNat).size + ((((⟨#[32, 32, 32, 32, 32, 32]⟩ : ByteArray).extract 0 (t255 : Int).toNat) ++ (rdOf ByteArray.empty y256 t260)) ++ (⟨#[10]⟩ : ByteArray)).size ≤ 9223372036854775807 then ((some (([((⟨#[32, 32, 32, 32, 32, 32, 32, 32, 32]⟩ : ByteArray).extract 0 (t253 : Int).toNat) ++ ((((⟨#[32, 32, 32, 32, 32, 32]⟩ : ByteArray).extract 0 (t255 : Int).toNat) ++ (rdOf ByteArray.empty y256 t260)) ++ (⟨#[10]⟩ : ByteArray))] : List ByteArray) : List ByteArray)).bind fun y268 => (if x8_1.length + y268.length < 8796093022208 then (correctorlaw8_BlockIndent.l0 kj7 l0 t253 a2 (x7_1 ++ y262) (x8_1 ++ y268) (wrap64 (x9_1 + 1))) else (none))) else (none)) else (none)) else (none)) else (none))) else (none)) else (none)) else (none)) else (none)))) else (none)) else (none))) else (none)) else (none)) = some r := by rw [if_pos rfl] at H; exact H
              clear H
              have H := H1
              clear H1
              by_cases c11 : 0 ≤ x9_1
              · rw [if_pos c11] at H
                have c11b0 : decide (0 ≤ x9_1) = true := decide_eq_true c11
                clear c11
                by_cases c12 : x9_1 < (l0.length : Int)
                · rw [if_pos c12] at H
                  have c12b0 : decide (x9_1 < (l0.length : Int)) = true := decide_eq_true c12
                  clear c12
                  replace H := Option.bind_eq_some_iff.mp H
                  obtain ⟨t255, A130, H⟩ := H
                  replace H : (if 0 ≤ t255 then (if t255 ≤ 6 then ((some (([(⟨#[97]⟩ : ByteArray), (⟨#[98, 32, 99]⟩ : ByteArray), (⟨#[45, 32, 100]⟩ : ByteArray), (⟨#[101]⟩ : ByteArray)] : List ByteArray) : List ByteArray)).bind fun y256 => ((correctorlaw8_within.f (wrap64 (Int.tdiv (rd l0 x9_1) 5)) 4).bind fun t260 => (if 0 ≤ t260 then (if t260 < (y256.length : Int) then (if ((⟨#[32, 32, 32, 32, 32, 32]⟩ : ByteArray).extract 0 (t255 : Int).toNat).size + (rdOf ByteArray.empty y256 t260).size ≤ 9223372036854775807 then (if (((⟨#[32, 32, 32, 32, 32, 32]⟩ : ByteArray).extract 0 (t255 : Int).toNat) ++ (rdOf ByteArray.empty y256 t260)).size + 1 ≤ 9223372036854775807 then ((some (([(((⟨#[32, 32, 32, 32, 32, 32]⟩ : ByteArray).extract 0 (t255 : Int).toNat) ++ (rdOf ByteArray.empty y256 t260)) ++ (⟨#[10]⟩ : ByteArray)] : List ByteArray) : List ByteArray)).bind fun y262 => (if x7_1.length + y262.length < 8796093022208 then (if 0 ≤ t253 then (if t253 ≤ 9 then (if ((⟨#[32, 32, 32, 32, 32, 32, 32, 32, 32]⟩ : ByteArray).extract 0 (t253 : Int).toNat).size + ((((⟨#[32, 32, 32, 32, 32, 32]⟩ : ByteArray).extract 0 (t255 : Int).toNat) ++ (rdOf ByteArray.empty y256 t260)) ++ (⟨#[10]⟩ : ByteArray)).size ≤ 9223372036854775807 then ((some (([((⟨#[32, 32, 32, 32, 32, 32, 32, 32, 32]⟩ : ByteArray).extract 0 (t253 : Int).toNat) ++ ((((⟨#[32, 32, 32, 32, 32, 32]⟩ : ByteArray).extract 0 (t255 : Int).toNat) ++ (rdOf ByteArray.empty y256 t260)) ++ (⟨#[10]⟩ : ByteArray))] : List ByteArray) : List ByteArray)).bind fun y268 => (if x8_1.length + y268.length < 8796093022208 then (correctorlaw8_BlockIndent.l0 kj7 l0 t253 a2 (x7_1 ++ y262) (x8_1 ++ y268) (wrap64 (x9_1 + 1))) else (none))) else (none)) else (none)) else (none)) else (none))) else (none)) else (none)) else (none)) else (none)))) else (none)) else (none)) = some r := H
                  have A13 := Aside0.mk A130
                  clear A130
                  by_cases c14 : 0 ≤ t255
                  · rw [if_pos c14] at H
                    have c14b0 := eq_true c14
                    have c14b1 : decide (0 ≤ t255) = true := decide_eq_true c14
                    clear c14
                    by_cases c15 : t255 ≤ 6
                    · rw [if_pos c15] at H
                      have c15b0 := eq_true c15
                      have c15b1 : decide (t255 ≤ 6) = true := decide_eq_true c15
                      clear c15
                      obtain ⟨y256, hy256⟩ : ∃ y_ : List ByteArray, y_ = (([(⟨#[97]⟩ : ByteArray), (⟨#[98, 32, 99]⟩ : ByteArray), (⟨#[45, 32, 100]⟩ : ByteArray), (⟨#[101]⟩ : ByteArray)] : List ByteArray)) := ⟨_, rfl⟩
                      replace H : ((correctorlaw8_within.f (wrap64 (Int.tdiv (rd l0 x9_1) 5)) 4).bind fun t260 => (if 0 ≤ t260 then (if t260 < (y256.length : Int) then (if ((⟨#[32, 32, 32, 32, 32, 32]⟩ : ByteArray).extract 0 (t255 : Int).toNat).size + (rdOf ByteArray.empty y256 t260).size ≤ 9223372036854775807 then (if (((⟨#[32, 32, 32, 32, 32, 32]⟩ : ByteArray).extract 0 (t255 : Int).toNat) ++ (rdOf ByteArray.empty y256 t260)).size + 1 ≤ 9223372036854775807 then ((some (([(((⟨#[32, 32, 32, 32, 32, 32]⟩ : ByteArray).extract 0 (t255 : Int).toNat) ++ (rdOf ByteArray.empty y256 t260)) ++ (⟨#[10]⟩ : ByteArray)] : List ByteArray) : List ByteArray)).bind fun y262 => (if x7_1.length + y262.length < 8796093022208 then (if 0 ≤ t253 then (if t253 ≤ 9 then (if ((⟨#[32, 32, 32, 32, 32, 32, 32, 32, 32]⟩ : ByteArray).extract 0 (t253 : Int).toNat).size + ((((⟨#[32, 32, 32, 32, 32, 32]⟩ : ByteArray).extract 0 (t255 : Int).toNat) ++ (rdOf ByteArray.empty y256 t260)) ++ (⟨#[10]⟩ : ByteArray)).size ≤ 9223372036854775807 then ((some (([((⟨#[32, 32, 32, 32, 32, 32, 32, 32, 32]⟩ : ByteArray).extract 0 (t253 : Int).toNat) ++ ((((⟨#[32, 32, 32, 32, 32, 32]⟩ : ByteArray).extract 0 (t255 : Int).toNat) ++ (rdOf ByteArray.empty y256 t260)) ++ (⟨#[10]⟩ : ByteArray))] : List ByteArray) : List ByteArray)).bind fun y268 => (if x8_1.length + y268.length < 8796093022208 then (correctorlaw8_BlockIndent.l0 kj7 l0 t253 a2 (x7_1 ++ y262) (x8_1 ++ y268) (wrap64 (x9_1 + 1))) else (none))) else (none)) else (none)) else (none)) else (none))) else (none)) else (none)) else (none)) else (none))) = some r := by first | (rw [hy256]; with_reducible exact H) | (have H2_ := (Option.bind_some _ _).symm.trans H; rw [hy256]; with_reducible exact H2_) | (have H2_ := (Option.bind_some _ _).symm.trans H; with_reducible exact H2_) | with_reducible exact H | (rw [hy256]; exact H) | exact H
                      have Ny256 := Aside0.mk hy256
                      clear hy256
                      replace H := Option.bind_eq_some_iff.mp H
                      obtain ⟨t260, A160, H⟩ := H
                      replace H : (if 0 ≤ t260 then (if t260 < (y256.length : Int) then (if ((⟨#[32, 32, 32, 32, 32, 32]⟩ : ByteArray).extract 0 (t255 : Int).toNat).size + (rdOf ByteArray.empty y256 t260).size ≤ 9223372036854775807 then (if (((⟨#[32, 32, 32, 32, 32, 32]⟩ : ByteArray).extract 0 (t255 : Int).toNat) ++ (rdOf ByteArray.empty y256 t260)).size + 1 ≤ 9223372036854775807 then ((some (([(((⟨#[32, 32, 32, 32, 32, 32]⟩ : ByteArray).extract 0 (t255 : Int).toNat) ++ (rdOf ByteArray.empty y256 t260)) ++ (⟨#[10]⟩ : ByteArray)] : List ByteArray) : List ByteArray)).bind fun y262 => (if x7_1.length + y262.length < 8796093022208 then (if 0 ≤ t253 then (if t253 ≤ 9 then (if ((⟨#[32, 32, 32, 32, 32, 32, 32, 32, 32]⟩ : ByteArray).extract 0 (t253 : Int).toNat).size + ((((⟨#[32, 32, 32, 32, 32, 32]⟩ : ByteArray).extract 0 (t255 : Int).toNat) ++ (rdOf ByteArray.empty y256 t260)) ++ (⟨#[10]⟩ : ByteArray)).size ≤ 9223372036854775807 then ((some (([((⟨#[32, 32, 32, 32, 32, 32, 32, 32, 32]⟩ : ByteArray).extract 0 (t253 : Int).toNat) ++ ((((⟨#[32, 32, 32, 32, 32, 32]⟩ : ByteArray).extract 0 (t255 : Int).toNat) ++ (rdOf ByteArray.empty y256 t260)) ++ (⟨#[10]⟩ : ByteArray))] : List ByteArray) : List ByteArray)).bind fun y268 => (if x8_1.length + y268.length < 8796093022208 then (correctorlaw8_BlockIndent.l0 kj7 l0 t253 a2 (x7_1 ++ y262) (x8_1 ++ y268) (wrap64 (x9_1 + 1))) else (none))) else (none)) else (none)) else (none)) else (none))) else (none)) else (none)) else (none)) else (none)) = some r := H
                      have A16 := Aside0.mk A160
                      clear A160
                      by_cases c17 : 0 ≤ t260
                      · rw [if_pos c17] at H
                        have c17b0 : decide (0 ≤ t260) = true := decide_eq_true c17
                        clear c17
                        by_cases c18 : t260 < (y256.length : Int)
                        · rw [if_pos c18] at H
                          have c18b0 : decide (t260 < (y256.length : Int)) = true := decide_eq_true c18
                          clear c18
                          by_cases c19 : ((⟨#[32, 32, 32, 32, 32, 32]⟩ : ByteArray).extract 0 (t255 : Int).toNat).size + (rdOf ByteArray.empty y256 t260).size ≤ 9223372036854775807
                          · rw [if_pos c19] at H
                            (try (have c19v : (9223372036854775807 < t255.toNat + (rdOf ByteArray.empty y256 t260).size) = False := eq_false (by have h_ := c19; simp only [ByteArray.size_append, ByteArray.size_extract] at h_; have e_0 : t255 ≤ 6 := of_eq_true (by assumption); have z_0 : (⟨#[32, 32, 32, 32, 32, 32]⟩ : ByteArray).size = 6 := rfl; have y_0 : (⟨#[32, 32, 32, 32, 32, 32]⟩ : ByteArray).size = 6 := rfl; omega)))
                            have c19b0 := eq_true c19
                            have c19b1 : decide (((⟨#[32, 32, 32, 32, 32, 32]⟩ : ByteArray).extract 0 (t255 : Int).toNat).size + (rdOf ByteArray.empty y256 t260).size ≤ 9223372036854775807) = true := decide_eq_true c19
                            try have c19b2 : (9223372036854775807 < ((⟨#[32, 32, 32, 32, 32, 32]⟩ : ByteArray).extract 0 (t255 : Int).toNat).size + (rdOf ByteArray.empty y256 t260).size) = False := eq_false (Nat.not_lt.2 c19)
                            by_cases c20 : (((⟨#[32, 32, 32, 32, 32, 32]⟩ : ByteArray).extract 0 (t255 : Int).toNat) ++ (rdOf ByteArray.empty y256 t260)).size + 1 ≤ 9223372036854775807
                            · rw [if_pos c20] at H
                              (try (have c20v : (9223372036854775807 < t255.toNat + (rdOf ByteArray.empty y256 t260).size + 1) = False := eq_false (by have h_ := c20; simp only [ByteArray.size_append, ByteArray.size_extract] at h_; have e_0 : t255 ≤ 6 := of_eq_true (by assumption); have z_0 : (⟨#[32, 32, 32, 32, 32, 32]⟩ : ByteArray).size = 6 := rfl; have y_0 : (⟨#[32, 32, 32, 32, 32, 32]⟩ : ByteArray).size = 6 := rfl; omega)))
                              have c20b0 := eq_true c20
                              have c20b1 : decide ((((⟨#[32, 32, 32, 32, 32, 32]⟩ : ByteArray).extract 0 (t255 : Int).toNat) ++ (rdOf ByteArray.empty y256 t260)).size + 1 ≤ 9223372036854775807) = true := decide_eq_true c20
                              try have c20b2 : (9223372036854775807 < (((⟨#[32, 32, 32, 32, 32, 32]⟩ : ByteArray).extract 0 (t255 : Int).toNat) ++ (rdOf ByteArray.empty y256 t260)).size + 1) = False := eq_false (Nat.not_lt.2 c20)
                              obtain ⟨y262, hy262⟩ : ∃ y_ : List ByteArray, y_ = (([(((⟨#[32, 32, 32, 32, 32, 32]⟩ : ByteArray).extract 0 (t255 : Int).toNat) ++ (rdOf ByteArray.empty y256 t260)) ++ (⟨#[10]⟩ : ByteArray)] : List ByteArray)) := ⟨_, rfl⟩
                              replace H : (if x7_1.length + y262.length < 8796093022208 then (if 0 ≤ t253 then (if t253 ≤ 9 then (if ((⟨#[32, 32, 32, 32, 32, 32, 32, 32, 32]⟩ : ByteArray).extract 0 (t253 : Int).toNat).size + ((((⟨#[32, 32, 32, 32, 32, 32]⟩ : ByteArray).extract 0 (t255 : Int).toNat) ++ (rdOf ByteArray.empty y256 t260)) ++ (⟨#[10]⟩ : ByteArray)).size ≤ 9223372036854775807 then ((some (([((⟨#[32, 32, 32, 32, 32, 32, 32, 32, 32]⟩ : ByteArray).extract 0 (t253 : Int).toNat) ++ ((((⟨#[32, 32, 32, 32, 32, 32]⟩ : ByteArray).extract 0 (t255 : Int).toNat) ++ (rdOf ByteArray.empty y256 t260)) ++ (⟨#[10]⟩ : ByteArray))] : List ByteArray) : List ByteArray)).bind fun y268 => (if x8_1.length + y268.length < 8796093022208 then (correctorlaw8_BlockIndent.l0 kj7 l0 t253 a2 (x7_1 ++ y262) (x8_1 ++ y268) (wrap64 (x9_1 + 1))) else (none))) else (none)) else (none)) else (none)) else (none)) = some r := by first | (rw [hy262]; with_reducible exact H) | (have H2_ := (Option.bind_some _ _).symm.trans H; rw [hy262]; with_reducible exact H2_) | (have H2_ := (Option.bind_some _ _).symm.trans H; with_reducible exact H2_) | with_reducible exact H | (rw [hy262]; exact H) | exact H
                              have Ny262 := Aside0.mk hy262
                              clear hy262
                              by_cases c21 : x7_1.length + y262.length < 8796093022208
                              · rw [if_pos c21] at H
                                have LMc21 := Aside0.mk c21
                                clear c21
                                obtain ⟨y265, hy265⟩ : ∃ y_ : List ByteArray, y_ = (x7_1 ++ y262) := ⟨_, rfl⟩
                                replace H : (if 0 ≤ t253 then (if t253 ≤ 9 then (if ((⟨#[32, 32, 32, 32, 32, 32, 32, 32, 32]⟩ : ByteArray).extract 0 (t253 : Int).toNat).size + ((((⟨#[32, 32, 32, 32, 32, 32]⟩ : ByteArray).extract 0 (t255 : Int).toNat) ++ (rdOf ByteArray.empty y256 t260)) ++ (⟨#[10]⟩ : ByteArray)).size ≤ 9223372036854775807 then ((some (([((⟨#[32, 32, 32, 32, 32, 32, 32, 32, 32]⟩ : ByteArray).extract 0 (t253 : Int).toNat) ++ ((((⟨#[32, 32, 32, 32, 32, 32]⟩ : ByteArray).extract 0 (t255 : Int).toNat) ++ (rdOf ByteArray.empty y256 t260)) ++ (⟨#[10]⟩ : ByteArray))] : List ByteArray) : List ByteArray)).bind fun y268 => (if x8_1.length + y268.length < 8796093022208 then (correctorlaw8_BlockIndent.l0 kj7 l0 t253 a2 y265 (x8_1 ++ y268) (wrap64 (x9_1 + 1))) else (none))) else (none)) else (none)) else (none)) = some r := by first | (rw [hy265]; with_reducible exact H) | (have H2_ := (Option.bind_some _ _).symm.trans H; rw [hy265]; with_reducible exact H2_) | (have H2_ := (Option.bind_some _ _).symm.trans H; with_reducible exact H2_) | with_reducible exact H | (rw [hy265]; exact H) | exact H
                                have Ny265 := Aside0.mk hy265
                                clear hy265
                                by_cases c22 : 0 ≤ t253
                                · rw [if_pos c22] at H
                                  have c22b0 := eq_true c22
                                  have c22b1 : decide (0 ≤ t253) = true := decide_eq_true c22
                                  clear c22
                                  by_cases c23 : t253 ≤ 9
                                  · rw [if_pos c23] at H
                                    have c23b0 := eq_true c23
                                    have c23b1 : decide (t253 ≤ 9) = true := decide_eq_true c23
                                    clear c23
                                    by_cases c24 : ((⟨#[32, 32, 32, 32, 32, 32, 32, 32, 32]⟩ : ByteArray).extract 0 (t253 : Int).toNat).size + ((((⟨#[32, 32, 32, 32, 32, 32]⟩ : ByteArray).extract 0 (t255 : Int).toNat) ++ (rdOf ByteArray.empty y256 t260)) ++ (⟨#[10]⟩ : ByteArray)).size ≤ 9223372036854775807
                                    · rw [if_pos c24] at H
                                      (try (have c24v : (9223372036854775807 < t253.toNat + (t255.toNat + (rdOf ByteArray.empty y256 t260).size + 1)) = False := eq_false (by have h_ := c24; simp only [ByteArray.size_append, ByteArray.size_extract] at h_; have e_0 : t253 ≤ 9 := of_eq_true (by assumption); have z_0 : (⟨#[32, 32, 32, 32, 32, 32, 32, 32, 32]⟩ : ByteArray).size = 9 := rfl; have e_1 : t255 ≤ 6 := of_eq_true (by assumption); have z_1 : (⟨#[32, 32, 32, 32, 32, 32]⟩ : ByteArray).size = 6 := rfl; have y_0 : (⟨#[32, 32, 32, 32, 32, 32, 32, 32, 32]⟩ : ByteArray).size = 9 := rfl; have y_1 : (⟨#[32, 32, 32, 32, 32, 32]⟩ : ByteArray).size = 6 := rfl; have y_2 : (⟨#[10]⟩ : ByteArray).size = 1 := rfl; omega)))
                                      have c24b0 := eq_true c24
                                      have c24b1 : decide (((⟨#[32, 32, 32, 32, 32, 32, 32, 32, 32]⟩ : ByteArray).extract 0 (t253 : Int).toNat).size + ((((⟨#[32, 32, 32, 32, 32, 32]⟩ : ByteArray).extract 0 (t255 : Int).toNat) ++ (rdOf ByteArray.empty y256 t260)) ++ (⟨#[10]⟩ : ByteArray)).size ≤ 9223372036854775807) = true := decide_eq_true c24
                                      try have c24b2 : (9223372036854775807 < ((⟨#[32, 32, 32, 32, 32, 32, 32, 32, 32]⟩ : ByteArray).extract 0 (t253 : Int).toNat).size + ((((⟨#[32, 32, 32, 32, 32, 32]⟩ : ByteArray).extract 0 (t255 : Int).toNat) ++ (rdOf ByteArray.empty y256 t260)) ++ (⟨#[10]⟩ : ByteArray)).size) = False := eq_false (Nat.not_lt.2 c24)
                                      obtain ⟨y268, hy268⟩ : ∃ y_ : List ByteArray, y_ = (([((⟨#[32, 32, 32, 32, 32, 32, 32, 32, 32]⟩ : ByteArray).extract 0 (t253 : Int).toNat) ++ ((((⟨#[32, 32, 32, 32, 32, 32]⟩ : ByteArray).extract 0 (t255 : Int).toNat) ++ (rdOf ByteArray.empty y256 t260)) ++ (⟨#[10]⟩ : ByteArray))] : List ByteArray)) := ⟨_, rfl⟩
                                      replace H : (if x8_1.length + y268.length < 8796093022208 then (correctorlaw8_BlockIndent.l0 kj7 l0 t253 a2 y265 (x8_1 ++ y268) (wrap64 (x9_1 + 1))) else (none)) = some r := by first | (rw [hy268]; with_reducible exact H) | (have H2_ := (Option.bind_some _ _).symm.trans H; rw [hy268]; with_reducible exact H2_) | (have H2_ := (Option.bind_some _ _).symm.trans H; with_reducible exact H2_) | with_reducible exact H | (rw [hy268]; exact H) | exact H
                                      have Ny268 := Aside0.mk hy268
                                      clear hy268
                                      by_cases c25 : x8_1.length + y268.length < 8796093022208
                                      · rw [if_pos c25] at H
                                        have LMc25 := Aside0.mk c25
                                        clear c25
                                        obtain ⟨y271, hy271⟩ : ∃ y_ : List ByteArray, y_ = (x8_1 ++ y268) := ⟨_, rfl⟩
                                        replace H : (correctorlaw8_BlockIndent.l0 kj7 l0 t253 a2 y265 y271 (wrap64 (x9_1 + 1))) = some r := by first | (rw [hy271]; with_reducible exact H) | (have H2_ := (Option.bind_some _ _).symm.trans H; rw [hy271]; with_reducible exact H2_) | (have H2_ := (Option.bind_some _ _).symm.trans H; with_reducible exact H2_) | with_reducible exact H | (rw [hy271]; exact H) | exact H
                                        have Ny271 := Aside0.mk hy271
                                        clear hy271
                                        have H' := Aside0.mk H
                                        clear H
                                        try go_wp2
                                        have pi261 : (0 ≤ (t260 : Int)) = True := eq_true (of_decide_eq_true (by first | (with_reducible assumption) | assumption))
                                        have qi261 : (t260 < (y256.length : Int)) = True := eq_true (of_decide_eq_true (by first | (with_reducible assumption) | assumption))
                                        have n0_ := Aside0.mk (Kd.R_drew HO_7.out)
                                        have n1_ := Aside0.mk (Kd.R_drew HO_8.out)
                                        have n2_ := Aside0.mk (below_drew1 HB.out)
                                        clear HO_7
                                        clear HO_8
                                        clear HB
                                        have HO_7 := n0_
                                        have HO_8 := n1_
                                        have HB := n2_
                                        clear n0_ n1_ n2_
                                        have p254 : 0 ≤ (x9_1 : Int) := of_decide_eq_true (by first | (with_reducible assumption) | assumption)
                                        have q254 : x9_1 < (l0.length : Int) := of_decide_eq_true (by first | (with_reducible assumption) | assumption)
                                        obtain ⟨ad254, e254, hx254_0⟩ := Kd.at_int HR0.out x9_1 p254 q254
                                        have hw254_0 := hx254_0
                                        cases e254
                                        replace hx254_0 := (HB.out.cell (World.block_lt_of_cell? w _ hx254_0)).trans hx254_0
                                        replace p254 := eq_true p254
                                        replace q254 := eq_true q254
                                        have p259 : 0 ≤ (x9_1 : Int) := of_decide_eq_true (by first | (with_reducible assumption) | assumption)
                                        have q259 : x9_1 < (l0.length : Int) := of_decide_eq_true (by first | (with_reducible assumption) | assumption)
                                        obtain ⟨ad259, e259, hx259_0⟩ := Kd.at_int HR0.out x9_1 p259 q259
                                        have hw259_0 := hx259_0
                                        obtain rfl : ad254 = ad259 := (by injection e259)
                                        replace hx259_0 := (HB.out.cell (World.block_lt_of_cell? w _ hx259_0)).trans hx259_0
                                        replace p259 := eq_true p259
                                        replace q259 := eq_true q259
                                        refine start_ (n := 18) (S := fun w' => w'.cell? (ad254.add (x9_1).toNat) = some (.int .i64 (rd l0 x9_1)) ∧ w'.cell? (ad254.add (x9_1).toNat) = some (.int .i64 (rd l0 x9_1))) (ds := []) #[false, false, false, false, false, false, false, false, false, false, false, false, false, false, false, false, false, false] (by kernel_rfl) rfl rfl ⟨((HB.out.cell (World.block_lt_of_cell? w _ hw254_0)).trans hw254_0), ((HB.out.cell (World.block_lt_of_cell? w _ hw259_0)).trans hw259_0)⟩ (fun hHeld => ?_); refine with_tabW correctorlaw8_BlockIndent.tab8 correctorlaw8_BlockIndent.bits8 (fun HT_ HW_ => ?_)
                                        generalize wc.drew = w26 at HO_7 HO_8 HB hx254_0 hx259_0 hHeld ⊢
                                        refine pure_ (i := 0) (N := some 28) (v := ?_) (a' := ?_) #[true, false, false, false, false, false, false, false, false, false, false, false, false, false, false, false, false, false] rfl rfl (any_of HT_.out (by kernel_rfl)) (fun _ _ _ h => h) (Or.inl ⟨by rfl, ?_⟩) ?_ ?_
                                        rotate_left
                                        · intro w'
                                          go_simp
                                          with_reducible rfl
                                        rotate_left
                                        · simp only [Act.put, List.setIfInBounds_toArray, List.set_cons_zero, List.set_cons_succ, i64_w, i32_w]
                                          rfl
                                        refine pure_ (i := 1) (N := some 29) (v := ?_) (a' := ?_) #[true, true, false, false, false, false, false, false, false, false, false, false, false, false, false, false, false, false] rfl rfl (any_of HT_.out (by kernel_rfl)) (fun _ _ _ h => h) (Or.inl ⟨by rfl, ?_⟩) ?_ ?_
                                        rotate_left
                                        · intro w'
                                          go_simp
                                          with_reducible rfl
                                        rotate_left
                                        · simp only [Act.put, List.setIfInBounds_toArray, List.set_cons_zero, List.set_cons_succ, i64_w, i32_w]
                                          rfl
                                        refine pure_ (i := 2) (N := some 30) (v := ?_) (a' := ?_) #[true, true, true, false, false, false, false, false, false, false, false, false, false, false, false, false, false, false] rfl rfl (any_of HT_.out (by kernel_rfl)) (fun _ _ _ h => h) (Or.inl ⟨by rfl, ?_⟩) ?_ ?_
                                        rotate_left
                                        · intro w'
                                          go_simp
                                          with_reducible rfl
                                        rotate_left
                                        · simp only [Act.put, List.setIfInBounds_toArray, List.set_cons_zero, List.set_cons_succ, i64_w, i32_w]
                                          rfl
                                        refine pure_ (i := 7) (N := some 35) (v := ?_) (a' := ?_) #[true, true, true, false, false, false, false, true, false, false, false, false, false, false, false, false, false, false] rfl rfl (any_of HT_.out (by kernel_rfl)) (fun _ _ _ h => h) (Or.inl ⟨by rfl, ?_⟩) ?_ ?_
                                        rotate_left
                                        · intro w'
                                          go_simp
                                          with_reducible rfl
                                        rotate_left
                                        · simp only [Act.put, List.setIfInBounds_toArray, List.set_cons_zero, List.set_cons_succ, i64_w, i32_w]
                                          rfl
                                        refine pure_ (i := 8) (N := some 36) (v := ?_) (a' := ?_) #[true, true, true, false, false, false, false, true, true, false, false, false, false, false, false, false, false, false] rfl rfl (any_of HT_.out (by kernel_rfl)) (fun _ _ _ h => h) (Or.inl ⟨by rfl, ?_⟩) ?_ ?_
                                        rotate_left
                                        · intro w'
                                          go_simp
                                          with_reducible rfl
                                        rotate_left
                                        · simp only [Act.put, List.setIfInBounds_toArray, List.set_cons_zero, List.set_cons_succ, i64_w, i32_w]
                                          rfl
                                        refine pure_ (i := 9) (N := some 37) (v := ?_) (a' := ?_) #[true, true, true, false, false, false, false, true, true, true, false, false, false, false, false, false, false, false] rfl rfl (any_of HT_.out (by kernel_rfl)) (fun _ _ _ h => h) (Or.inl ⟨by rfl, ?_⟩) ?_ ?_
                                        rotate_left
                                        · intro w'
                                          go_simp
                                          with_reducible rfl
                                        rotate_left
                                        · simp only [Act.put, List.setIfInBounds_toArray, List.set_cons_zero, List.set_cons_succ, i64_w, i32_w]
                                          rfl
                                        refine take_ (i := 3) (N := some 31) (v := ?_) (a' := ?_) #[true, true, true, true, false, false, false, true, true, true, false, false, false, false, false, false, false, false] rfl rfl (take_ofW HT_.out HW_.out (by kernel_rfl)) (fun _ _ _ h => h) (Or.inl ⟨by rfl, ?_⟩) hHeld ?_ ?_
                                        rotate_left
                                        · rintro w' ⟨s0, s1⟩
                                          go_simp
                                          with_reducible rfl
                                        rotate_left
                                        · simp only [Act.put, List.setIfInBounds_toArray, List.set_cons_zero, List.set_cons_succ, i64_w, i32_w]
                                          rfl
                                        refine take_ (i := 10) (N := some 38) (v := ?_) (a' := ?_) #[true, true, true, true, false, false, false, true, true, true, true, false, false, false, false, false, false, false] rfl rfl (take_ofW HT_.out HW_.out (by kernel_rfl)) (fun _ _ _ h => h) (Or.inl ⟨by rfl, ?_⟩) hHeld ?_ ?_
                                        rotate_left
                                        · rintro w' ⟨s0, s1⟩
                                          go_simp
                                          with_reducible rfl
                                        rotate_left
                                        · simp only [Act.put, List.setIfInBounds_toArray, List.set_cons_zero, List.set_cons_succ, i64_w, i32_w]
                                          rfl
                                        refine pure_ (i := 11) (N := some 39) (v := ?_) (a' := ?_) #[true, true, true, true, false, false, false, true, true, true, true, true, false, false, false, false, false, false] rfl rfl (any_of HT_.out (by kernel_rfl)) (fun _ _ _ h => h) (Or.inl ⟨by rfl, ?_⟩) ?_ ?_
                                        rotate_left
                                        · intro w'
                                          go_simp
                                          with_reducible rfl
                                        rotate_left
                                        · simp only [Act.put, List.setIfInBounds_toArray, List.set_cons_zero, List.set_cons_succ, i64_w, i32_w]
                                          rfl
                                        refine join_ (σ := Value × Addr) 5 #[true, true, true, true, true, true, true, true, true, true, true, true, true, false, false, false, false, false] (fun s_ => [(32, .int .i64 t255), (34, s_.1), (40, .int .i64 t260), (33, .string ((⟨#[32, 32, 32, 32, 32, 32]⟩ : ByteArray).extract 0 (t255 : Int).toNat))]) (fun s_ w' => (w'.cell? (ad254.add (x9_1).toNat) = some (.int .i64 (rd l0 x9_1)) ∧ w'.cell? (ad254.add (x9_1).toNat) = some (.int .i64 (rd l0 x9_1))) ∧ (Kd.R Kd.string 9 w' w.heap.size (fun k_ => some k_ ≠ (u7 : Value).ownBlock ∧ some k_ ≠ (u8 : Value).ownBlock) s_.1 y256) ∧ (Kd.R Kd.string 9 w' w.heap.size (fun k_ => some k_ ≠ (s_.1 : Value).ownBlock ∧ some k_ ≠ (u8 : Value).ownBlock) u7 x7_1) ∧ (Kd.R Kd.string 9 w' w.heap.size (fun k_ => some k_ ≠ (s_.1 : Value).ownBlock ∧ some k_ ≠ (u7 : Value).ownBlock) u8 x8_1) ∧ (∃ c_, (s_.1 : Value) = .slice (some s_.2) y256.length c_) ∧ (Below w.heap.size w w')) ?_ ?_
                                        rotate_left
                                        · intro hCont
                                          refine two_ (i := 4) (j := 6) (Ni := some 32) (Nj := some 34) #[true, true, true, true, true, false, false, true, true, true, true, true, false, false, false, false, false, false] #[true, true, true, true, false, false, true, true, true, true, true, true, false, false, false, false, false, false] rfl rfl rfl rfl (two_of HT_.out (by kernel_rfl)) (by decide) (by decide) (fun K hK => ?_) (fun K hK => ?_)
                                          · skip
                                            refine goes_ Try.func10 (by kernel_rfl) rfl #[.int .i64 (rd l0 x9_1), .int .i64 5] (by rfl) rfl rfl (by (try simp only [List.map_toArray, List.map_cons, List.map_nil]); first | done | rfl | (simp only [List.length_drop, List.length_take]; rfl) | (simp only [ByteArray.size_extract, Nat.min_self]; done) | (simp only [ByteArray.size_extract, Nat.min_self]; rfl)) ?_
                                            with_reducible refine (correctorlaw8_within.calls (rd l0 x9_1) 5 t255 _ A13.out).mono ?_
                                            rintro e w' ⟨rfl, ⟨nd, rfl⟩⟩
                                            refine ⟨_, rfl, ?_⟩
                                            refine hK.out _ _ ⟨((HB.out.cell (World.block_lt_of_cell? w _ hw254_0)).trans hw254_0), ((HB.out.cell (World.block_lt_of_cell? w _ hw259_0)).trans hw259_0)⟩ (fun hHeld => ?_)
                                            clear hK K
                                            refine norm_ (a' := ?_) ?_ ?_
                                            rotate_left
                                            · show Act.put _ (some 32) _ = _
                                              simp only [Act.put, List.setIfInBounds_toArray, List.set_cons_zero, List.set_cons_succ, i64_w, i32_w]
                                              rfl
                                            refine pure_ (i := 5) (N := some 33) (v := ?_) (a' := ?_) #[true, true, true, true, true, true, false, true, true, true, true, true, false, false, false, false, false, false] rfl rfl (any_of HT_.out (by kernel_rfl)) (fun _ _ _ h => h) (Or.inl ⟨by rfl, ?_⟩) ?_ ?_
                                            rotate_left
                                            · intro w'
                                              go_simp
                                              with_reducible rfl
                                            rotate_left
                                            · simp only [Act.put, List.setIfInBounds_toArray, List.set_cons_zero, List.set_cons_succ, i64_w, i32_w]
                                              rfl
                                            refine two_ (i := 6) (j := 12) (Ni := some 34) (Nj := some 40) #[true, true, true, true, true, true, true, true, true, true, true, true, false, false, false, false, false, false] #[true, true, true, true, true, true, false, true, true, true, true, true, true, false, false, false, false, false] rfl rfl rfl rfl (two_of HT_.out (by kernel_rfl)) (by decide) (by decide) (fun K hK => ?_) (fun K hK => ?_)
                                            · skip
                                              refine Kd.R_lit_step Kd.string _ 9 ?hg (N := 34) ?hd (xs := ([(⟨#[97]⟩ : ByteArray), (⟨#[98, 32, 99]⟩ : ByteArray), (⟨#[45, 32, 100]⟩ : ByteArray), (⟨#[101]⟩ : ByteArray)] : List ByteArray)) (inner := [.string (⟨#[97]⟩ : ByteArray), .string (⟨#[98, 32, 99]⟩ : ByteArray), .string (⟨#[45, 32, 100]⟩ : ByteArray), .string (⟨#[101]⟩ : ByteArray)]) (ok := fun _ => True) (okp := fun _ => True) ?hr ?hp (fun _ hk => hk) trivial (Below.refl _ _) (Nat.le_refl _) (by simp) ?_; (case hd => rfl); (case hg => rfl); (case hr => first | (go_simp; done) | (go_simp; rfl)); (case hp => exact (Reps.one (show Kd.M Kd.string _ _ _ (⟨#[97]⟩ : ByteArray) [.string (⟨#[97]⟩ : ByteArray)] from rfl) (Reps.one (show Kd.M Kd.string _ _ _ (⟨#[98, 32, 99]⟩ : ByteArray) [.string (⟨#[98, 32, 99]⟩ : ByteArray)] from rfl) (Reps.one (show Kd.M Kd.string _ _ _ (⟨#[45, 32, 100]⟩ : ByteArray) [.string (⟨#[45, 32, 100]⟩ : ByteArray)] from rfl) (Reps.one (show Kd.M Kd.string _ _ _ (⟨#[101]⟩ : ByteArray) [.string (⟨#[101]⟩ : ByteArray)] from rfl) (Reps.none _ _))))))
                                              intro v257 w27 ho28 hb hg_ hnew_
                                              clear hg_ hnew_
                                              (first | rw [← Ny256.out] at ho28 | (simp only [Int.reduceToNat] at ho28; rw [← Ny256.out] at ho28))
                                              have n0_ := Aside0.mk (Kd.R_elder' (by (with_reducible repeat (first | apply Kd.R_alloc | apply Kd.R_drewN | apply Kd.R_drew)); exact HO_7.out) (Kd.R_base ho28) hb)
                                              have n1_ := Aside0.mk (Kd.R_elder' (by (with_reducible repeat (first | apply Kd.R_alloc | apply Kd.R_drewN | apply Kd.R_drew)); exact HO_8.out) (Kd.R_base ho28) hb)
                                              have n2_ := Aside0.mk (Kd.R_lower (Kd.R_new' (Kd.R_new' ho28 (Kd.R_lt (by (with_reducible repeat (first | apply Kd.R_alloc | apply Kd.R_drewN | apply Kd.R_drew)); exact HO_7.out))) (Kd.R_lt (by (with_reducible repeat (first | apply Kd.R_alloc | apply Kd.R_drewN | apply Kd.R_drew)); exact HO_8.out))) (below_size (by repeat (first | (with_reducible first | exact HB.out | apply below_alloc | apply pw_below_drewN | apply below_drew1) | exact HB.out))))
                                              have n3_ := Aside0.mk (below_step (by repeat (first | (with_reducible first | exact HB.out | apply below_alloc | apply pw_below_drewN | apply below_drew1) | exact HB.out)) hb)
                                              clear HO_7
                                              clear HO_8
                                              clear HB
                                              have HO_7 := n0_
                                              have HO_8 := n1_
                                              have HO258 := n2_
                                              have HB := n3_
                                              clear n0_ n1_ n2_ n3_
                                              clear hb ho28
                                              obtain ⟨Ao29, co29, eo29⟩ := Kd.R_slice HO258.out
                                              subst eo29
                                              obtain ⟨ado29, fo29, _⟩ := Kd.at_string (Kd.R_reads' HO258.out).2.2 0 (by decide) (by rw [Ny256.out]; simp)
                                              cases fo29
                                              refine hK.out _ _ ⟨((HB.out.cell (World.block_lt_of_cell? w _ hw254_0)).trans hw254_0), ((HB.out.cell (World.block_lt_of_cell? w _ hw259_0)).trans hw259_0)⟩ (fun hHeld => ?_)
                                              clear hK K
                                              refine norm_ (a' := ?_) ?_ ?_
                                              rotate_left
                                              · show Act.put _ (some 34) _ = _
                                                simp only [Act.put, List.setIfInBounds_toArray, List.set_cons_zero, List.set_cons_succ, i64_w, i32_w]
                                                rfl
                                              refine one_ (i := 12) (N := some 40) #[true, true, true, true, true, true, true, true, true, true, true, true, true, false, false, false, false, false] rfl rfl (one_of HT_.out (by kernel_rfl)) (by decide) (fun K hK => ?_)
                                              refine goes_ Try.func10 (by kernel_rfl) rfl #[.int .i64 (wrap64 (Int.tdiv (rd l0 x9_1) 5)), .int .i64 4] (by rfl) rfl rfl (by (try simp only [List.map_toArray, List.map_cons, List.map_nil]); first | done | rfl | (simp only [List.length_drop, List.length_take]; rfl) | (simp only [ByteArray.size_extract, Nat.min_self]; done) | (simp only [ByteArray.size_extract, Nat.min_self]; rfl)) ?_
                                              with_reducible refine (correctorlaw8_within.calls (wrap64 (Int.tdiv (rd l0 x9_1) 5)) 4 t260 _ A16.out).mono ?_
                                              rintro e w' ⟨rfl, ⟨nd, rfl⟩⟩
                                              refine ⟨_, rfl, ?_⟩
                                              refine hK.out _ _ ⟨((HB.out.cell (World.block_lt_of_cell? w _ hw254_0)).trans hw254_0), ((HB.out.cell (World.block_lt_of_cell? w _ hw259_0)).trans hw259_0)⟩ (fun hHeld => ?_)
                                              clear hK K
                                              refine norm_ (a' := ?_) ?_ ?_
                                              rotate_left
                                              · show Act.put _ (some 40) _ = _
                                                simp only [Act.put, List.setIfInBounds_toArray, List.set_cons_zero, List.set_cons_succ, i64_w, i32_w]
                                                rfl
                                              exact norm_ (by simp only [putAll, Act.put, List.setIfInBounds_toArray, List.set_cons_zero, List.set_cons_succ]) (hCont (.slice (some ado29) y256.length co29, ado29) _ ⟨hHeld, (by (with_reducible repeat (first | apply Kd.R_alloc | apply Kd.R_drewN | apply Kd.R_drew)); exact Kd.R_mono HO258.out (fun _ hk => ⟨hk.1.2, hk.2⟩)), (by (with_reducible repeat (first | apply Kd.R_alloc | apply Kd.R_drewN | apply Kd.R_drew)); exact Kd.R_mono HO_7.out (fun _ hk => ⟨hk.2, hk.1⟩)), (by (with_reducible repeat (first | apply Kd.R_alloc | apply Kd.R_drewN | apply Kd.R_drew)); exact Kd.R_mono HO_8.out (fun _ hk => ⟨hk.2, hk.1⟩)), ⟨_, rfl⟩, (by repeat (first | (with_reducible first | exact HB.out | apply below_alloc | apply pw_below_drewN | apply below_drew1) | exact HB.out))⟩)
                                            · skip
                                              refine goes_ Try.func10 (by kernel_rfl) rfl #[.int .i64 (wrap64 (Int.tdiv (rd l0 x9_1) 5)), .int .i64 4] (by rfl) rfl rfl (by (try simp only [List.map_toArray, List.map_cons, List.map_nil]); first | done | rfl | (simp only [List.length_drop, List.length_take]; rfl) | (simp only [ByteArray.size_extract, Nat.min_self]; done) | (simp only [ByteArray.size_extract, Nat.min_self]; rfl)) ?_
                                              with_reducible refine (correctorlaw8_within.calls (wrap64 (Int.tdiv (rd l0 x9_1) 5)) 4 t260 _ A16.out).mono ?_
                                              rintro e w' ⟨rfl, ⟨nd, rfl⟩⟩
                                              refine ⟨_, rfl, ?_⟩
                                              refine hK.out _ _ ⟨((HB.out.cell (World.block_lt_of_cell? w _ hw254_0)).trans hw254_0), ((HB.out.cell (World.block_lt_of_cell? w _ hw259_0)).trans hw259_0)⟩ (fun hHeld => ?_)
                                              clear hK K
                                              refine norm_ (a' := ?_) ?_ ?_
                                              rotate_left
                                              · show Act.put _ (some 40) _ = _
                                                simp only [Act.put, List.setIfInBounds_toArray, List.set_cons_zero, List.set_cons_succ, i64_w, i32_w]
                                                rfl
                                              refine one_ (i := 6) (N := some 34) #[true, true, true, true, true, true, true, true, true, true, true, true, true, false, false, false, false, false] rfl rfl (one_of HT_.out (by kernel_rfl)) (by decide) (fun K hK => ?_)
                                              refine Kd.R_lit_step Kd.string _ 9 ?hg (N := 34) ?hd (xs := ([(⟨#[97]⟩ : ByteArray), (⟨#[98, 32, 99]⟩ : ByteArray), (⟨#[45, 32, 100]⟩ : ByteArray), (⟨#[101]⟩ : ByteArray)] : List ByteArray)) (inner := [.string (⟨#[97]⟩ : ByteArray), .string (⟨#[98, 32, 99]⟩ : ByteArray), .string (⟨#[45, 32, 100]⟩ : ByteArray), .string (⟨#[101]⟩ : ByteArray)]) (ok := fun _ => True) (okp := fun _ => True) ?hr ?hp (fun _ hk => hk) trivial (Below.refl _ _) (Nat.le_refl _) (by simp) ?_; (case hd => rfl); (case hg => rfl); (case hr => first | (go_simp; done) | (go_simp; rfl)); (case hp => exact (Reps.one (show Kd.M Kd.string _ _ _ (⟨#[97]⟩ : ByteArray) [.string (⟨#[97]⟩ : ByteArray)] from rfl) (Reps.one (show Kd.M Kd.string _ _ _ (⟨#[98, 32, 99]⟩ : ByteArray) [.string (⟨#[98, 32, 99]⟩ : ByteArray)] from rfl) (Reps.one (show Kd.M Kd.string _ _ _ (⟨#[45, 32, 100]⟩ : ByteArray) [.string (⟨#[45, 32, 100]⟩ : ByteArray)] from rfl) (Reps.one (show Kd.M Kd.string _ _ _ (⟨#[101]⟩ : ByteArray) [.string (⟨#[101]⟩ : ByteArray)] from rfl) (Reps.none _ _))))))
                                              intro v257 w27 ho28 hb hg_ hnew_
                                              clear hg_ hnew_
                                              (first | rw [← Ny256.out] at ho28 | (simp only [Int.reduceToNat] at ho28; rw [← Ny256.out] at ho28))
                                              have n0_ := Aside0.mk (Kd.R_elder' (by (with_reducible repeat (first | apply Kd.R_alloc | apply Kd.R_drewN | apply Kd.R_drew)); exact HO_7.out) (Kd.R_base ho28) hb)
                                              have n1_ := Aside0.mk (Kd.R_elder' (by (with_reducible repeat (first | apply Kd.R_alloc | apply Kd.R_drewN | apply Kd.R_drew)); exact HO_8.out) (Kd.R_base ho28) hb)
                                              have n2_ := Aside0.mk (Kd.R_lower (Kd.R_new' (Kd.R_new' ho28 (Kd.R_lt (by (with_reducible repeat (first | apply Kd.R_alloc | apply Kd.R_drewN | apply Kd.R_drew)); exact HO_7.out))) (Kd.R_lt (by (with_reducible repeat (first | apply Kd.R_alloc | apply Kd.R_drewN | apply Kd.R_drew)); exact HO_8.out))) (below_size (by repeat (first | (with_reducible first | exact HB.out | apply below_alloc | apply pw_below_drewN | apply below_drew1) | exact HB.out))))
                                              have n3_ := Aside0.mk (below_step (by repeat (first | (with_reducible first | exact HB.out | apply below_alloc | apply pw_below_drewN | apply below_drew1) | exact HB.out)) hb)
                                              clear HO_7
                                              clear HO_8
                                              clear HB
                                              have HO_7 := n0_
                                              have HO_8 := n1_
                                              have HO258 := n2_
                                              have HB := n3_
                                              clear n0_ n1_ n2_ n3_
                                              clear hb ho28
                                              obtain ⟨Ao29, co29, eo29⟩ := Kd.R_slice HO258.out
                                              subst eo29
                                              obtain ⟨ado29, fo29, _⟩ := Kd.at_string (Kd.R_reads' HO258.out).2.2 0 (by decide) (by rw [Ny256.out]; simp)
                                              cases fo29
                                              refine hK.out _ _ ⟨((HB.out.cell (World.block_lt_of_cell? w _ hw254_0)).trans hw254_0), ((HB.out.cell (World.block_lt_of_cell? w _ hw259_0)).trans hw259_0)⟩ (fun hHeld => ?_)
                                              clear hK K
                                              refine norm_ (a' := ?_) ?_ ?_
                                              rotate_left
                                              · show Act.put _ (some 34) _ = _
                                                simp only [Act.put, List.setIfInBounds_toArray, List.set_cons_zero, List.set_cons_succ, i64_w, i32_w]
                                                rfl
                                              exact norm_ (by simp only [putAll, Act.put, List.setIfInBounds_toArray, List.set_cons_zero, List.set_cons_succ]) (hCont (.slice (some ado29) y256.length co29, ado29) _ ⟨hHeld, (by (with_reducible repeat (first | apply Kd.R_alloc | apply Kd.R_drewN | apply Kd.R_drew)); exact Kd.R_mono HO258.out (fun _ hk => ⟨hk.1.2, hk.2⟩)), (by (with_reducible repeat (first | apply Kd.R_alloc | apply Kd.R_drewN | apply Kd.R_drew)); exact Kd.R_mono HO_7.out (fun _ hk => ⟨hk.2, hk.1⟩)), (by (with_reducible repeat (first | apply Kd.R_alloc | apply Kd.R_drewN | apply Kd.R_drew)); exact Kd.R_mono HO_8.out (fun _ hk => ⟨hk.2, hk.1⟩)), ⟨_, rfl⟩, (by repeat (first | (with_reducible first | exact HB.out | apply below_alloc | apply pw_below_drewN | apply below_drew1) | exact HB.out))⟩)
                                          · skip
                                            refine Kd.R_lit_step Kd.string _ 9 ?hg (N := 34) ?hd (xs := ([(⟨#[97]⟩ : ByteArray), (⟨#[98, 32, 99]⟩ : ByteArray), (⟨#[45, 32, 100]⟩ : ByteArray), (⟨#[101]⟩ : ByteArray)] : List ByteArray)) (inner := [.string (⟨#[97]⟩ : ByteArray), .string (⟨#[98, 32, 99]⟩ : ByteArray), .string (⟨#[45, 32, 100]⟩ : ByteArray), .string (⟨#[101]⟩ : ByteArray)]) (ok := fun _ => True) (okp := fun _ => True) ?hr ?hp (fun _ hk => hk) trivial (Below.refl _ _) (Nat.le_refl _) (by simp) ?_; (case hd => rfl); (case hg => rfl); (case hr => first | (go_simp; done) | (go_simp; rfl)); (case hp => exact (Reps.one (show Kd.M Kd.string _ _ _ (⟨#[97]⟩ : ByteArray) [.string (⟨#[97]⟩ : ByteArray)] from rfl) (Reps.one (show Kd.M Kd.string _ _ _ (⟨#[98, 32, 99]⟩ : ByteArray) [.string (⟨#[98, 32, 99]⟩ : ByteArray)] from rfl) (Reps.one (show Kd.M Kd.string _ _ _ (⟨#[45, 32, 100]⟩ : ByteArray) [.string (⟨#[45, 32, 100]⟩ : ByteArray)] from rfl) (Reps.one (show Kd.M Kd.string _ _ _ (⟨#[101]⟩ : ByteArray) [.string (⟨#[101]⟩ : ByteArray)] from rfl) (Reps.none _ _))))))
                                            intro v257 w27 ho28 hb hg_ hnew_
                                            clear hg_ hnew_
                                            (first | rw [← Ny256.out] at ho28 | (simp only [Int.reduceToNat] at ho28; rw [← Ny256.out] at ho28))
                                            have n0_ := Aside0.mk (Kd.R_elder' (by (with_reducible repeat (first | apply Kd.R_alloc | apply Kd.R_drewN | apply Kd.R_drew)); exact HO_7.out) (Kd.R_base ho28) hb)
                                            have n1_ := Aside0.mk (Kd.R_elder' (by (with_reducible repeat (first | apply Kd.R_alloc | apply Kd.R_drewN | apply Kd.R_drew)); exact HO_8.out) (Kd.R_base ho28) hb)
                                            have n2_ := Aside0.mk (Kd.R_lower (Kd.R_new' (Kd.R_new' ho28 (Kd.R_lt (by (with_reducible repeat (first | apply Kd.R_alloc | apply Kd.R_drewN | apply Kd.R_drew)); exact HO_7.out))) (Kd.R_lt (by (with_reducible repeat (first | apply Kd.R_alloc | apply Kd.R_drewN | apply Kd.R_drew)); exact HO_8.out))) (below_size (by repeat (first | (with_reducible first | exact HB.out | apply below_alloc | apply pw_below_drewN | apply below_drew1) | exact HB.out))))
                                            have n3_ := Aside0.mk (below_step (by repeat (first | (with_reducible first | exact HB.out | apply below_alloc | apply pw_below_drewN | apply below_drew1) | exact HB.out)) hb)
                                            clear HO_7
                                            clear HO_8
                                            clear HB
                                            have HO_7 := n0_
                                            have HO_8 := n1_
                                            have HO258 := n2_
                                            have HB := n3_
                                            clear n0_ n1_ n2_ n3_
                                            clear hb ho28
                                            obtain ⟨Ao29, co29, eo29⟩ := Kd.R_slice HO258.out
                                            subst eo29
                                            obtain ⟨ado29, fo29, _⟩ := Kd.at_string (Kd.R_reads' HO258.out).2.2 0 (by decide) (by rw [Ny256.out]; simp)
                                            cases fo29
                                            refine hK.out _ _ ⟨((HB.out.cell (World.block_lt_of_cell? w _ hw254_0)).trans hw254_0), ((HB.out.cell (World.block_lt_of_cell? w _ hw259_0)).trans hw259_0)⟩ (fun hHeld => ?_)
                                            clear hK K
                                            refine norm_ (a' := ?_) ?_ ?_
                                            rotate_left
                                            · show Act.put _ (some 34) _ = _
                                              simp only [Act.put, List.setIfInBounds_toArray, List.set_cons_zero, List.set_cons_succ, i64_w, i32_w]
                                              rfl
                                            refine one_ (i := 4) (N := some 32) #[true, true, true, true, true, false, true, true, true, true, true, true, false, false, false, false, false, false] rfl rfl (one_of HT_.out (by kernel_rfl)) (by decide) (fun K hK => ?_)
                                            refine goes_ Try.func10 (by kernel_rfl) rfl #[.int .i64 (rd l0 x9_1), .int .i64 5] (by rfl) rfl rfl (by (try simp only [List.map_toArray, List.map_cons, List.map_nil]); first | done | rfl | (simp only [List.length_drop, List.length_take]; rfl) | (simp only [ByteArray.size_extract, Nat.min_self]; done) | (simp only [ByteArray.size_extract, Nat.min_self]; rfl)) ?_
                                            with_reducible refine (correctorlaw8_within.calls (rd l0 x9_1) 5 t255 _ A13.out).mono ?_
                                            rintro e w' ⟨rfl, ⟨nd, rfl⟩⟩
                                            refine ⟨_, rfl, ?_⟩
                                            refine hK.out _ _ ⟨((HB.out.cell (World.block_lt_of_cell? w _ hw254_0)).trans hw254_0), ((HB.out.cell (World.block_lt_of_cell? w _ hw259_0)).trans hw259_0)⟩ (fun hHeld => ?_)
                                            clear hK K
                                            refine norm_ (a' := ?_) ?_ ?_
                                            rotate_left
                                            · show Act.put _ (some 32) _ = _
                                              simp only [Act.put, List.setIfInBounds_toArray, List.set_cons_zero, List.set_cons_succ, i64_w, i32_w]
                                              rfl
                                            refine pure_ (i := 5) (N := some 33) (v := ?_) (a' := ?_) #[true, true, true, true, true, true, true, true, true, true, true, true, false, false, false, false, false, false] rfl rfl (any_of HT_.out (by kernel_rfl)) (fun _ _ _ h => h) (Or.inl ⟨by rfl, ?_⟩) ?_ ?_
                                            rotate_left
                                            · intro w'
                                              go_simp
                                              with_reducible rfl
                                            rotate_left
                                            · simp only [Act.put, List.setIfInBounds_toArray, List.set_cons_zero, List.set_cons_succ, i64_w, i32_w]
                                              rfl
                                            refine one_ (i := 12) (N := some 40) #[true, true, true, true, true, true, true, true, true, true, true, true, true, false, false, false, false, false] rfl rfl (one_of HT_.out (by kernel_rfl)) (by decide) (fun K hK => ?_)
                                            refine goes_ Try.func10 (by kernel_rfl) rfl #[.int .i64 (wrap64 (Int.tdiv (rd l0 x9_1) 5)), .int .i64 4] (by rfl) rfl rfl (by (try simp only [List.map_toArray, List.map_cons, List.map_nil]); first | done | rfl | (simp only [List.length_drop, List.length_take]; rfl) | (simp only [ByteArray.size_extract, Nat.min_self]; done) | (simp only [ByteArray.size_extract, Nat.min_self]; rfl)) ?_
                                            with_reducible refine (correctorlaw8_within.calls (wrap64 (Int.tdiv (rd l0 x9_1) 5)) 4 t260 _ A16.out).mono ?_
                                            rintro e w' ⟨rfl, ⟨nd, rfl⟩⟩
                                            refine ⟨_, rfl, ?_⟩
                                            refine hK.out _ _ ⟨((HB.out.cell (World.block_lt_of_cell? w _ hw254_0)).trans hw254_0), ((HB.out.cell (World.block_lt_of_cell? w _ hw259_0)).trans hw259_0)⟩ (fun hHeld => ?_)
                                            clear hK K
                                            refine norm_ (a' := ?_) ?_ ?_
                                            rotate_left
                                            · show Act.put _ (some 40) _ = _
                                              simp only [Act.put, List.setIfInBounds_toArray, List.set_cons_zero, List.set_cons_succ, i64_w, i32_w]
                                              rfl
                                            exact norm_ (by simp only [putAll, Act.put, List.setIfInBounds_toArray, List.set_cons_zero, List.set_cons_succ]) (hCont (.slice (some ado29) y256.length co29, ado29) _ ⟨hHeld, (by (with_reducible repeat (first | apply Kd.R_alloc | apply Kd.R_drewN | apply Kd.R_drew)); exact Kd.R_mono HO258.out (fun _ hk => ⟨hk.1.2, hk.2⟩)), (by (with_reducible repeat (first | apply Kd.R_alloc | apply Kd.R_drewN | apply Kd.R_drew)); exact Kd.R_mono HO_7.out (fun _ hk => ⟨hk.2, hk.1⟩)), (by (with_reducible repeat (first | apply Kd.R_alloc | apply Kd.R_drewN | apply Kd.R_drew)); exact Kd.R_mono HO_8.out (fun _ hk => ⟨hk.2, hk.1⟩)), ⟨_, rfl⟩, (by repeat (first | (with_reducible first | exact HB.out | apply below_alloc | apply pw_below_drewN | apply below_drew1) | exact HB.out))⟩)
                                        rintro ⟨v257, adz_v257⟩ w30 ⟨hS_, h0_, h1_, h2_, h3_, h4_⟩
                                        have n0_ : Aside0 (Kd.R Kd.string 9 w30 w.heap.size (fun k_ => some k_ ≠ (u7 : Value).ownBlock ∧ some k_ ≠ (u8 : Value).ownBlock) v257 y256) := ⟨h0_⟩
                                        have n1_ : Aside0 (Kd.R Kd.string 9 w30 w.heap.size (fun k_ => some k_ ≠ (v257 : Value).ownBlock ∧ some k_ ≠ (u8 : Value).ownBlock) u7 x7_1) := ⟨h1_⟩
                                        have n2_ : Aside0 (Kd.R Kd.string 9 w30 w.heap.size (fun k_ => some k_ ≠ (v257 : Value).ownBlock ∧ some k_ ≠ (u7 : Value).ownBlock) u8 x8_1) := ⟨h2_⟩
                                        have n3_ : Aside0 (∃ c_, (v257 : Value) = .slice (some adz_v257) y256.length c_) := ⟨h3_⟩
                                        have n4_ : Aside0 (Below w.heap.size w w30) := ⟨h4_⟩
                                        clear HO_7
                                        clear HO_8
                                        clear HB
                                        clear h0_ h1_ h2_ h3_ h4_
                                        have HO258 := n0_
                                        have HO_7 := n1_
                                        have HO_8 := n2_
                                        have HA_HO258 := n3_
                                        have HB := n4_
                                        clear n0_ n1_ n2_ n3_ n4_
                                        have hHeld : w30.cell? (ad254.add (x9_1).toNat) = some (.int .i64 (rd l0 x9_1)) ∧ w30.cell? (ad254.add (x9_1).toNat) = some (.int .i64 (rd l0 x9_1)) := hS_
                                        obtain ⟨co31, eo31⟩ := HA_HO258.out
                                        clear HA_HO258
                                        subst eo31
                                        refine norm_ (a' := ?_) ?_ ?_
                                        rotate_left
                                        · simp only [putAll, Act.put, List.setIfInBounds_toArray, List.set_cons_zero, List.set_cons_succ]
                                          rfl
                                        refine pure_ (i := 13) (N := some 41) (v := ?_) (a' := ?_) #[true, true, true, true, true, true, true, true, true, true, true, true, true, true, false, false, false, false] rfl rfl (any_of HT_.out (by kernel_rfl)) (fun _ _ _ h => h) (Or.inl ⟨by rfl, ?_⟩) ?_ ?_
                                        rotate_left
                                        · intro w'
                                          go_simp
                                          with_reducible rfl
                                        rotate_left
                                        · simp only [Act.put, List.setIfInBounds_toArray, List.set_cons_zero, List.set_cons_succ, i64_w, i32_w]
                                          rfl
                                        refine one_ (i := 14) (N := some 42) #[true, true, true, true, true, true, true, true, true, true, true, true, true, true, true, false, false, false] rfl rfl (one_of HT_.out (by kernel_rfl)) (by decide) (fun K hK => ?_)
                                        (have p261 : 0 ≤ (t260 : Int) := of_decide_eq_true (by first | (with_reducible assumption) | assumption); have q261 : t260 < (y256.length : Int) := of_decide_eq_true (by first | (with_reducible assumption) | assumption); obtain ⟨ad261, e261, hx261_0⟩ := Kd.at_string (Kd.R_reads' HO258.out).2.2 t260 p261 q261; obtain rfl : adz_v257 = ad261 := (by injection e261))
                                        refine value_ (w1 := ?_) (v := ?_) (by rfl) rfl ?_ ?_
                                        rotate_left 2
                                        · go_simp
                                          constructor
                                          · rfl
                                          · rfl
                                        clear hx261_0
                                        refine hK.out _ _ ⟨((HB.out.cell (World.block_lt_of_cell? w _ hw254_0)).trans hw254_0), ((HB.out.cell (World.block_lt_of_cell? w _ hw259_0)).trans hw259_0)⟩ (fun hHeld => ?_)
                                        clear hK K
                                        refine norm_ (a' := ?_) ?_ ?_
                                        rotate_left
                                        · show Act.put _ (some 42) _ = _
                                          simp only [Act.put, List.setIfInBounds_toArray, List.set_cons_zero, List.set_cons_succ, i64_w, i32_w]
                                          rfl
                                        refine pure_ (i := 15) (N := some 43) (v := ?_) (a' := ?_) #[true, true, true, true, true, true, true, true, true, true, true, true, true, true, true, true, false, false] rfl rfl (any_of HT_.out (by kernel_rfl)) (fun _ _ _ h => h) (Or.inl ⟨by rfl, ?_⟩) ?_ ?_
                                        rotate_left
                                        · intro w'
                                          go_simp
                                          with_reducible rfl
                                        rotate_left
                                        · simp only [Act.put, List.setIfInBounds_toArray, List.set_cons_zero, List.set_cons_succ, i64_w, i32_w]
                                          rfl
                                        refine pure_ (i := 16) (N := some 44) (v := ?_) (a' := ?_) #[true, true, true, true, true, true, true, true, true, true, true, true, true, true, true, true, true, false] rfl rfl (any_of HT_.out (by kernel_rfl)) (fun _ _ _ h => h) (Or.inl ⟨by rfl, ?_⟩) ?_ ?_
                                        rotate_left
                                        · intro w'
                                          go_simp
                                          with_reducible rfl
                                        rotate_left
                                        · simp only [Act.put, List.setIfInBounds_toArray, List.set_cons_zero, List.set_cons_succ, i64_w, i32_w]
                                          rfl
                                        refine pure_ (i := 17) (N := some 10) (v := ?_) (a' := ?_) #[true, true, true, true, true, true, true, true, true, true, true, true, true, true, true, true, true, true] rfl rfl (any_of HT_.out (by kernel_rfl)) (fun _ _ _ h => h) (Or.inl ⟨by rfl, ?_⟩) ?_ ?_
                                        rotate_left
                                        · intro w'
                                          go_simp
                                          with_reducible rfl
                                        rotate_left
                                        · simp only [Act.put, List.setIfInBounds_toArray, List.set_cons_zero, List.set_cons_succ, i64_w, i32_w]
                                          rfl
                                        refine done_ (done_of HT_.out (by kernel_rfl)) ?_
                                        obtain ⟨Ao32, co32, eo32⟩ := Kd.R_slice HO_7.out
                                        subst eo32
                                        obtain ⟨Ao33, co33, eo33⟩ := Kd.R_slice HO_8.out
                                        subst eo33
                                        try go_wp2
                                        have n0_ := Aside0.mk (Kd.R_drew HO_7.out)
                                        have n1_ := Aside0.mk (Kd.R_drew HO_8.out)
                                        have n2_ := Aside0.mk (Kd.R_drew HO258.out)
                                        have n3_ := Aside0.mk (below_drew1 HB.out)
                                        clear HO_7
                                        clear HO_8
                                        clear HO258
                                        clear HB
                                        have HO_7 := n0_
                                        have HO_8 := n1_
                                        have HO258 := n2_
                                        have HB := n3_
                                        clear n0_ n1_ n2_ n3_
                                        refine start_ (n := 13) (S := fun w' => True) (ds := []) #[false, false, false, false, false, false, false, false, false, false, false, false, false] (by kernel_rfl) rfl rfl trivial (fun hHeld => ?_); refine with_tabW correctorlaw8_BlockIndent.tab9 correctorlaw8_BlockIndent.bits9 (fun HT_ HW_ => ?_)
                                        generalize w30.drew = w34 at HO_7 HO_8 HO258 HB hHeld ⊢
                                        refine pure_ (i := 0) (N := some 45) (v := ?_) (a' := ?_) #[true, false, false, false, false, false, false, false, false, false, false, false, false] rfl rfl (any_of HT_.out (by kernel_rfl)) (fun _ _ _ h => h) (Or.inl ⟨by rfl, ?_⟩) ?_ ?_
                                        rotate_left
                                        · intro w'
                                          go_simp
                                          with_reducible rfl
                                        rotate_left
                                        · simp only [Act.put, List.setIfInBounds_toArray, List.set_cons_zero, List.set_cons_succ, i64_w, i32_w]
                                          rfl
                                        refine pure_ (i := 1) (N := some 46) (v := ?_) (a' := ?_) #[true, true, false, false, false, false, false, false, false, false, false, false, false] rfl rfl (any_of HT_.out (by kernel_rfl)) (fun _ _ _ h => h) (Or.inl ⟨by rfl, ?_⟩) ?_ ?_
                                        rotate_left
                                        · intro w'
                                          go_simp
                                          with_reducible rfl
                                        rotate_left
                                        · simp only [Act.put, List.setIfInBounds_toArray, List.set_cons_zero, List.set_cons_succ, i64_w, i32_w]
                                          rfl
                                        refine pure_ (i := 4) (N := some 49) (v := ?_) (a' := ?_) #[true, true, false, false, true, false, false, false, false, false, false, false, false] rfl rfl (any_of HT_.out (by kernel_rfl)) (fun _ _ _ h => h) (Or.inl ⟨by rfl, ?_⟩) ?_ ?_
                                        rotate_left
                                        · intro w'
                                          go_simp
                                          with_reducible rfl
                                        rotate_left
                                        · simp only [Act.put, List.setIfInBounds_toArray, List.set_cons_zero, List.set_cons_succ, i64_w, i32_w]
                                          rfl
                                        refine pure_ (i := 5) (N := some 50) (v := ?_) (a' := ?_) #[true, true, false, false, true, true, false, false, false, false, false, false, false] rfl rfl (any_of HT_.out (by kernel_rfl)) (fun _ _ _ h => h) (Or.inl ⟨by rfl, ?_⟩) ?_ ?_
                                        rotate_left
                                        · intro w'
                                          go_simp
                                          with_reducible rfl
                                        rotate_left
                                        · simp only [Act.put, List.setIfInBounds_toArray, List.set_cons_zero, List.set_cons_succ, i64_w, i32_w]
                                          rfl
                                        refine pure_ (i := 6) (N := some 51) (v := ?_) (a' := ?_) #[true, true, false, false, true, true, true, false, false, false, false, false, false] rfl rfl (any_of HT_.out (by kernel_rfl)) (fun _ _ _ h => h) (Or.inl ⟨by rfl, ?_⟩) ?_ ?_
                                        rotate_left
                                        · intro w'
                                          go_simp
                                          with_reducible rfl
                                        rotate_left
                                        · simp only [Act.put, List.setIfInBounds_toArray, List.set_cons_zero, List.set_cons_succ, i64_w, i32_w]
                                          rfl
                                        refine pure_ (i := 7) (N := some 52) (v := ?_) (a' := ?_) #[true, true, false, false, true, true, true, true, false, false, false, false, false] rfl rfl (any_of HT_.out (by kernel_rfl)) (fun _ _ _ h => h) (Or.inl ⟨by rfl, ?_⟩) ?_ ?_
                                        rotate_left
                                        · intro w'
                                          go_simp
                                          with_reducible rfl
                                        rotate_left
                                        · simp only [Act.put, List.setIfInBounds_toArray, List.set_cons_zero, List.set_cons_succ, i64_w, i32_w]
                                          rfl
                                        refine pure_ (i := 8) (N := some 53) (v := ?_) (a' := ?_) #[true, true, false, false, true, true, true, true, true, false, false, false, false] rfl rfl (any_of HT_.out (by kernel_rfl)) (fun _ _ _ h => h) (Or.inl ⟨by rfl, ?_⟩) ?_ ?_
                                        rotate_left
                                        · intro w'
                                          go_simp
                                          with_reducible rfl
                                        rotate_left
                                        · simp only [Act.put, List.setIfInBounds_toArray, List.set_cons_zero, List.set_cons_succ, i64_w, i32_w]
                                          rfl
                                        refine join_ (σ := Value × Value × Value) 3 #[true, true, true, true, true, true, true, true, true, true, false, false, false] (fun s_ => [(47, s_.1), (48, s_.2.1), (54, s_.2.2)]) (fun s_ w' => (Kd.R Kd.string 9 w' w.heap.size (fun k_ => some k_ ≠ (s_.1 : Value).ownBlock ∧ some k_ ≠ (s_.2.1 : Value).ownBlock ∧ some k_ ≠ (s_.2.2 : Value).ownBlock ∧ some k_ ≠ (.slice Ao33 x8_1.length co33 : Value).ownBlock) (.slice (some adz_v257) y256.length co31) y256) ∧ (Kd.R Kd.string 9 w' w.heap.size (fun k_ => some k_ ≠ (.slice (some adz_v257) y256.length co31 : Value).ownBlock ∧ some k_ ≠ (s_.2.1 : Value).ownBlock ∧ some k_ ≠ (s_.2.2 : Value).ownBlock ∧ some k_ ≠ (.slice Ao33 x8_1.length co33 : Value).ownBlock) s_.1 y262) ∧ (Kd.R Kd.string 9 w' w.heap.size (fun k_ => some k_ ≠ (.slice (some adz_v257) y256.length co31 : Value).ownBlock ∧ some k_ ≠ (s_.1 : Value).ownBlock ∧ some k_ ≠ (s_.2.2 : Value).ownBlock ∧ some k_ ≠ (.slice Ao33 x8_1.length co33 : Value).ownBlock) s_.2.1 y265) ∧ (Kd.R Kd.string 9 w' w.heap.size (fun k_ => some k_ ≠ (.slice (some adz_v257) y256.length co31 : Value).ownBlock ∧ some k_ ≠ (s_.1 : Value).ownBlock ∧ some k_ ≠ (s_.2.1 : Value).ownBlock ∧ some k_ ≠ (.slice Ao33 x8_1.length co33 : Value).ownBlock) s_.2.2 y268) ∧ (Kd.R Kd.string 9 w' w.heap.size (fun k_ => some k_ ≠ (.slice (some adz_v257) y256.length co31 : Value).ownBlock ∧ some k_ ≠ (s_.1 : Value).ownBlock ∧ some k_ ≠ (s_.2.1 : Value).ownBlock ∧ some k_ ≠ (s_.2.2 : Value).ownBlock) (.slice Ao33 x8_1.length co33) x8_1) ∧ (Below w.heap.size w w')) ?_ ?_
                                        rotate_left
                                        · intro hCont
                                          refine two_ (i := 2) (j := 9) (Ni := some 47) (Nj := some 54) #[true, true, true, false, true, true, true, true, true, false, false, false, false] #[true, true, false, false, true, true, true, true, true, true, false, false, false] rfl rfl rfl rfl (two_of HT_.out (by kernel_rfl)) (by decide) (by decide) (fun K hK => ?_) (fun K hK => ?_)
                                          · skip
                                            refine Kd.R_lit_step Kd.string _ 9 ?hg (N := 47) ?hd (xs := ([(((⟨#[32, 32, 32, 32, 32, 32]⟩ : ByteArray).extract 0 (t255 : Int).toNat) ++ (rdOf ByteArray.empty y256 t260)) ++ (⟨#[10]⟩ : ByteArray)] : List ByteArray)) (inner := [.string ((((⟨#[32, 32, 32, 32, 32, 32]⟩ : ByteArray).extract 0 (t255 : Int).toNat) ++ (rdOf ByteArray.empty y256 t260)) ++ (⟨#[10]⟩ : ByteArray))]) (ok := fun _ => True) (okp := fun _ => True) ?hr ?hp (fun _ hk => hk) trivial (Below.refl _ _) (Nat.le_refl _) (by simp) ?_; (case hd => rfl); (case hg => rfl); (case hr => first | (go_simp; done) | (go_simp; rfl)); (case hp => exact (Reps.one (show Kd.M Kd.string _ _ _ ((((⟨#[32, 32, 32, 32, 32, 32]⟩ : ByteArray).extract 0 (t255 : Int).toNat) ++ (rdOf ByteArray.empty y256 t260)) ++ (⟨#[10]⟩ : ByteArray)) [.string ((((⟨#[32, 32, 32, 32, 32, 32]⟩ : ByteArray).extract 0 (t255 : Int).toNat) ++ (rdOf ByteArray.empty y256 t260)) ++ (⟨#[10]⟩ : ByteArray))] from rfl) (Reps.none _ _)))
                                            intro v263 w35 ho36 hb hg_ hnew_
                                            clear hg_ hnew_
                                            (first | rw [← Ny262.out] at ho36 | (simp only [Int.reduceToNat] at ho36; rw [← Ny262.out] at ho36))
                                            have n0_ := Aside0.mk (Kd.R_elder' (by (with_reducible repeat (first | apply Kd.R_alloc | apply Kd.R_drewN | apply Kd.R_drew)); exact HO_7.out) (Kd.R_base ho36) hb)
                                            have n1_ := Aside0.mk (Kd.R_elder' (by (with_reducible repeat (first | apply Kd.R_alloc | apply Kd.R_drewN | apply Kd.R_drew)); exact HO_8.out) (Kd.R_base ho36) hb)
                                            have n2_ := Aside0.mk (Kd.R_elder' (by (with_reducible repeat (first | apply Kd.R_alloc | apply Kd.R_drewN | apply Kd.R_drew)); exact HO258.out) (Kd.R_base ho36) hb)
                                            have n3_ := Aside0.mk (Kd.R_lower (Kd.R_new' (Kd.R_new' (Kd.R_new' ho36 (Kd.R_lt (by (with_reducible repeat (first | apply Kd.R_alloc | apply Kd.R_drewN | apply Kd.R_drew)); exact HO_7.out))) (Kd.R_lt (by (with_reducible repeat (first | apply Kd.R_alloc | apply Kd.R_drewN | apply Kd.R_drew)); exact HO_8.out))) (Kd.R_lt (by (with_reducible repeat (first | apply Kd.R_alloc | apply Kd.R_drewN | apply Kd.R_drew)); exact HO258.out))) (below_size (by repeat (first | (with_reducible first | exact HB.out | apply below_alloc | apply pw_below_drewN | apply below_drew1) | exact HB.out))))
                                            have n4_ := Aside0.mk (below_step (by repeat (first | (with_reducible first | exact HB.out | apply below_alloc | apply pw_below_drewN | apply below_drew1) | exact HB.out)) hb)
                                            clear HO_7
                                            clear HO_8
                                            clear HO258
                                            clear HB
                                            have HO_7 := n0_
                                            have HO_8 := n1_
                                            have HO258 := n2_
                                            have HO264 := n3_
                                            have HB := n4_
                                            clear n0_ n1_ n2_ n3_ n4_
                                            clear hb ho36
                                            obtain ⟨Ao38, co38, eo38⟩ := Kd.R_slice HO264.out
                                            (first | subst eo38 | (injection eo38 with f1_ f2_ f3_; have f4_ := f1_.symm; have f5_ := f3_.symm; clear f1_ f2_ f3_; subst f4_; subst f5_))
                                            refine hK.out _ _ trivial (fun hHeld => ?_)
                                            clear hK K
                                            refine norm_ (a' := ?_) ?_ ?_
                                            rotate_left
                                            · show Act.put _ (some 47) _ = _
                                              simp only [Act.put, List.setIfInBounds_toArray, List.set_cons_zero, List.set_cons_succ, i64_w, i32_w]
                                              rfl
                                            refine two_ (i := 3) (j := 9) (Ni := some 48) (Nj := some 54) #[true, true, true, true, true, true, true, true, true, false, false, false, false] #[true, true, true, false, true, true, true, true, true, true, false, false, false] rfl rfl rfl rfl (two_of HT_.out (by kernel_rfl)) (by decide) (by decide) (fun K hK => ?_) (fun K hK => ?_)
                                            · skip
                                              refine Kd.R_append_rows_step Kd.string (w0 := w) w.heap.size (by rfl) (.tmp 45) (.tmp 47) 22 9 (.string ⟨#[]⟩) 16 rfl Try.underlying22 info9 rfl (by decide) (by omega) (.slice Ao32 x7_1.length co32) x7_1 y262 _ _ _ (fun k_ => some k_ ≠ (.slice Ao33 x8_1.length co33 : Value).ownBlock ∧ some k_ ≠ (.slice (some adz_v257) y256.length co31 : Value).ownBlock ∧ some k_ ≠ (.slice Ao38 y262.length co38 : Value).ownBlock) (fun _ => False) rfl rfl ?aO ?aR (fun _ _ h => h) (fun _ h => h.elim) ?aF ?aB ?aS ?aL ?_
                                              (case aR => repeat (first | exact (Kd.R_reads' HO264.out).2.2 | (with_reducible refine Kd.C_alloc ?_ _) | (with_reducible refine Kd.C_drewN ?_ _) | (with_reducible refine Kd.C_drew ?_)))
                                              (case aB => exact (by repeat (first | (with_reducible first | exact HB.out | apply below_alloc | apply pw_below_drewN | apply below_drew1) | exact HB.out)))
                                              (case aF => exact (fun k_ hk => ⟨Kd.fresh' (Kd.R_lt (by (with_reducible repeat (first | apply Kd.R_alloc | apply Kd.R_drewN | apply Kd.R_drew)); exact HO_8.out)) k_ hk, Kd.fresh' (Kd.R_lt (by (with_reducible repeat (first | apply Kd.R_alloc | apply Kd.R_drewN | apply Kd.R_drew)); exact HO258.out)) k_ hk, Kd.fresh' (Kd.R_lt (by (with_reducible repeat (first | apply Kd.R_alloc | apply Kd.R_drewN | apply Kd.R_drew)); exact HO264.out)) k_ hk⟩))
                                              (case aO => exact (by (with_reducible repeat (first | apply Kd.R_alloc | apply Kd.R_drewN | apply Kd.R_drew)); exact Kd.R_mono HO_7.out (fun _ hk => ⟨hk.1.2, ⟨hk.1.1, hk.2⟩⟩)))
                                              (case aS => exact (below_size (by repeat (first | (with_reducible first | exact HB.out | apply below_alloc | apply pw_below_drewN | apply below_drew1) | exact HB.out))))
                                              (case aL => have := LMc21.out; omega)
                                              intro v266 w37 ho hb hg hat
                                              rw [← Ny265.out] at ho
                                              have n0_ := Aside0.mk (Kd.R_after (ok := (fun k_ => some k_ ≠ (.slice (some adz_v257) y256.length co31 : Value).ownBlock ∧ some k_ ≠ (.slice Ao38 y262.length co38 : Value).ownBlock)) (by (with_reducible repeat (first | apply Kd.R_alloc | apply Kd.R_drewN | apply Kd.R_drew)); exact Kd.R_mono HO_8.out (fun _ hk => ⟨⟨hk.1.1, hk.2⟩, hk.1.2⟩)) hg hat)
                                              have n1_ := Aside0.mk (Kd.R_after (ok := (fun k_ => some k_ ≠ (.slice Ao33 x8_1.length co33 : Value).ownBlock ∧ some k_ ≠ (.slice Ao38 y262.length co38 : Value).ownBlock)) (by (with_reducible repeat (first | apply Kd.R_alloc | apply Kd.R_drewN | apply Kd.R_drew)); exact Kd.R_mono HO258.out (fun _ hk => ⟨⟨hk.1.2, hk.2⟩, hk.1.1⟩)) hg hat)
                                              have n2_ := Aside0.mk (Kd.R_after (ok := (fun k_ => some k_ ≠ (.slice Ao33 x8_1.length co33 : Value).ownBlock ∧ some k_ ≠ (.slice (some adz_v257) y256.length co31 : Value).ownBlock)) (by (with_reducible repeat (first | apply Kd.R_alloc | apply Kd.R_drewN | apply Kd.R_drew)); exact Kd.R_mono HO264.out (fun _ hk => ⟨⟨hk.1.2, hk.2⟩, hk.1.1.2⟩)) hg hat)
                                              have n3_ := Aside0.mk (hb)
                                              have n4_ := Aside0.mk (ho)
                                              clear HO_8
                                              clear HO258
                                              clear HO264
                                              clear HB
                                              clear HO_7
                                              have HO_8 := n0_
                                              have HO258 := n1_
                                              have HO264 := n2_
                                              have HB := n3_
                                              have HO267 := n4_
                                              clear n0_ n1_ n2_ n3_ n4_
                                              clear ho hb hg hat
                                              refine hK.out _ _ trivial (fun hHeld => ?_)
                                              clear hK K
                                              refine norm_ (a' := ?_) ?_ ?_
                                              rotate_left
                                              · show Act.put _ (some 48) _ = _
                                                simp only [Act.put, List.setIfInBounds_toArray, List.set_cons_zero, List.set_cons_succ, i64_w, i32_w]
                                                rfl
                                              refine one_ (i := 9) (N := some 54) #[true, true, true, true, true, true, true, true, true, true, false, false, false] rfl rfl (one_of HT_.out (by kernel_rfl)) (by decide) (fun K hK => ?_)
                                              refine Kd.R_lit_step Kd.string _ 9 ?hg (N := 54) ?hd (xs := ([((⟨#[32, 32, 32, 32, 32, 32, 32, 32, 32]⟩ : ByteArray).extract 0 (t253 : Int).toNat) ++ ((((⟨#[32, 32, 32, 32, 32, 32]⟩ : ByteArray).extract 0 (t255 : Int).toNat) ++ (rdOf ByteArray.empty y256 t260)) ++ (⟨#[10]⟩ : ByteArray))] : List ByteArray)) (inner := [.string (((⟨#[32, 32, 32, 32, 32, 32, 32, 32, 32]⟩ : ByteArray).extract 0 (t253 : Int).toNat) ++ ((((⟨#[32, 32, 32, 32, 32, 32]⟩ : ByteArray).extract 0 (t255 : Int).toNat) ++ (rdOf ByteArray.empty y256 t260)) ++ (⟨#[10]⟩ : ByteArray)))]) (ok := fun _ => True) (okp := fun _ => True) ?hr ?hp (fun _ hk => hk) trivial (Below.refl _ _) (Nat.le_refl _) (by simp) ?_; (case hd => rfl); (case hg => rfl); (case hr => first | (go_simp; done) | (go_simp; rfl)); (case hp => exact (Reps.one (show Kd.M Kd.string _ _ _ (((⟨#[32, 32, 32, 32, 32, 32, 32, 32, 32]⟩ : ByteArray).extract 0 (t253 : Int).toNat) ++ ((((⟨#[32, 32, 32, 32, 32, 32]⟩ : ByteArray).extract 0 (t255 : Int).toNat) ++ (rdOf ByteArray.empty y256 t260)) ++ (⟨#[10]⟩ : ByteArray))) [.string (((⟨#[32, 32, 32, 32, 32, 32, 32, 32, 32]⟩ : ByteArray).extract 0 (t253 : Int).toNat) ++ ((((⟨#[32, 32, 32, 32, 32, 32]⟩ : ByteArray).extract 0 (t255 : Int).toNat) ++ (rdOf ByteArray.empty y256 t260)) ++ (⟨#[10]⟩ : ByteArray)))] from rfl) (Reps.none _ _)))
                                              intro v269 w39 ho40 hb hg_ hnew_
                                              clear hg_ hnew_
                                              (first | rw [← Ny268.out] at ho40 | (simp only [Int.reduceToNat] at ho40; rw [← Ny268.out] at ho40))
                                              have n0_ := Aside0.mk (Kd.R_elder' (by (with_reducible repeat (first | apply Kd.R_alloc | apply Kd.R_drewN | apply Kd.R_drew)); exact HO_8.out) (Kd.R_base ho40) hb)
                                              have n1_ := Aside0.mk (Kd.R_elder' (by (with_reducible repeat (first | apply Kd.R_alloc | apply Kd.R_drewN | apply Kd.R_drew)); exact HO258.out) (Kd.R_base ho40) hb)
                                              have n2_ := Aside0.mk (Kd.R_elder' (by (with_reducible repeat (first | apply Kd.R_alloc | apply Kd.R_drewN | apply Kd.R_drew)); exact HO264.out) (Kd.R_base ho40) hb)
                                              have n3_ := Aside0.mk (Kd.R_elder' (by (with_reducible repeat (first | apply Kd.R_alloc | apply Kd.R_drewN | apply Kd.R_drew)); exact HO267.out) (Kd.R_base ho40) hb)
                                              have n4_ := Aside0.mk (Kd.R_lower (Kd.R_new' (Kd.R_new' (Kd.R_new' (Kd.R_new' ho40 (Kd.R_lt (by (with_reducible repeat (first | apply Kd.R_alloc | apply Kd.R_drewN | apply Kd.R_drew)); exact HO_8.out))) (Kd.R_lt (by (with_reducible repeat (first | apply Kd.R_alloc | apply Kd.R_drewN | apply Kd.R_drew)); exact HO258.out))) (Kd.R_lt (by (with_reducible repeat (first | apply Kd.R_alloc | apply Kd.R_drewN | apply Kd.R_drew)); exact HO264.out))) (Kd.R_lt (by (with_reducible repeat (first | apply Kd.R_alloc | apply Kd.R_drewN | apply Kd.R_drew)); exact HO267.out))) (below_size (by repeat (first | (with_reducible first | exact HB.out | apply below_alloc | apply pw_below_drewN | apply below_drew1) | exact HB.out))))
                                              have n5_ := Aside0.mk (below_step (by repeat (first | (with_reducible first | exact HB.out | apply below_alloc | apply pw_below_drewN | apply below_drew1) | exact HB.out)) hb)
                                              clear HO_8
                                              clear HO258
                                              clear HO264
                                              clear HO267
                                              clear HB
                                              have HO_8 := n0_
                                              have HO258 := n1_
                                              have HO264 := n2_
                                              have HO267 := n3_
                                              have HO270 := n4_
                                              have HB := n5_
                                              clear n0_ n1_ n2_ n3_ n4_ n5_
                                              clear hb ho40
                                              refine hK.out _ _ trivial (fun hHeld => ?_)
                                              clear hK K
                                              refine norm_ (a' := ?_) ?_ ?_
                                              rotate_left
                                              · show Act.put _ (some 54) _ = _
                                                simp only [Act.put, List.setIfInBounds_toArray, List.set_cons_zero, List.set_cons_succ, i64_w, i32_w]
                                                rfl
                                              exact norm_ (by simp only [putAll, Act.put, List.setIfInBounds_toArray, List.set_cons_zero, List.set_cons_succ]) (hCont (.slice Ao38 y262.length co38, v266, v269) _ ⟨(by (with_reducible repeat (first | apply Kd.R_alloc | apply Kd.R_drewN | apply Kd.R_drew)); exact Kd.R_mono HO258.out (fun _ hk => ⟨hk.1.1.2, ⟨hk.1.2, ⟨hk.2, hk.1.1.1⟩⟩⟩)), (by (with_reducible repeat (first | apply Kd.R_alloc | apply Kd.R_drewN | apply Kd.R_drew)); exact Kd.R_mono HO264.out (fun _ hk => ⟨hk.1.1.2, ⟨hk.1.2, ⟨hk.2, hk.1.1.1⟩⟩⟩)), (by (with_reducible repeat (first | apply Kd.R_alloc | apply Kd.R_drewN | apply Kd.R_drew)); exact Kd.R_mono HO267.out (fun _ hk => ⟨hk.1.2.1, ⟨hk.1.2.2, ⟨hk.2, hk.1.1⟩⟩⟩)), (by (with_reducible repeat (first | apply Kd.R_alloc | apply Kd.R_drewN | apply Kd.R_drew)); exact Kd.R_mono HO270.out (fun _ hk => ⟨hk.1.1.2, ⟨hk.1.2, ⟨hk.2, hk.1.1.1.2⟩⟩⟩)), (by (with_reducible repeat (first | apply Kd.R_alloc | apply Kd.R_drewN | apply Kd.R_drew)); exact Kd.R_mono HO_8.out (fun _ hk => ⟨hk.1.1.1, ⟨hk.1.1.2, ⟨hk.1.2, hk.2⟩⟩⟩)), (by repeat (first | (with_reducible first | exact HB.out | apply below_alloc | apply pw_below_drewN | apply below_drew1) | exact HB.out))⟩)
                                            · skip
                                              refine Kd.R_lit_step Kd.string _ 9 ?hg (N := 54) ?hd (xs := ([((⟨#[32, 32, 32, 32, 32, 32, 32, 32, 32]⟩ : ByteArray).extract 0 (t253 : Int).toNat) ++ ((((⟨#[32, 32, 32, 32, 32, 32]⟩ : ByteArray).extract 0 (t255 : Int).toNat) ++ (rdOf ByteArray.empty y256 t260)) ++ (⟨#[10]⟩ : ByteArray))] : List ByteArray)) (inner := [.string (((⟨#[32, 32, 32, 32, 32, 32, 32, 32, 32]⟩ : ByteArray).extract 0 (t253 : Int).toNat) ++ ((((⟨#[32, 32, 32, 32, 32, 32]⟩ : ByteArray).extract 0 (t255 : Int).toNat) ++ (rdOf ByteArray.empty y256 t260)) ++ (⟨#[10]⟩ : ByteArray)))]) (ok := fun _ => True) (okp := fun _ => True) ?hr ?hp (fun _ hk => hk) trivial (Below.refl _ _) (Nat.le_refl _) (by simp) ?_; (case hd => rfl); (case hg => rfl); (case hr => first | (go_simp; done) | (go_simp; rfl)); (case hp => exact (Reps.one (show Kd.M Kd.string _ _ _ (((⟨#[32, 32, 32, 32, 32, 32, 32, 32, 32]⟩ : ByteArray).extract 0 (t253 : Int).toNat) ++ ((((⟨#[32, 32, 32, 32, 32, 32]⟩ : ByteArray).extract 0 (t255 : Int).toNat) ++ (rdOf ByteArray.empty y256 t260)) ++ (⟨#[10]⟩ : ByteArray))) [.string (((⟨#[32, 32, 32, 32, 32, 32, 32, 32, 32]⟩ : ByteArray).extract 0 (t253 : Int).toNat) ++ ((((⟨#[32, 32, 32, 32, 32, 32]⟩ : ByteArray).extract 0 (t255 : Int).toNat) ++ (rdOf ByteArray.empty y256 t260)) ++ (⟨#[10]⟩ : ByteArray)))] from rfl) (Reps.none _ _)))
                                              intro v269 w37 ho38 hb hg_ hnew_
                                              clear hg_ hnew_
                                              (first | rw [← Ny268.out] at ho38 | (simp only [Int.reduceToNat] at ho38; rw [← Ny268.out] at ho38))
                                              have n0_ := Aside0.mk (Kd.R_elder' (by (with_reducible repeat (first | apply Kd.R_alloc | apply Kd.R_drewN | apply Kd.R_drew)); exact HO_7.out) (Kd.R_base ho38) hb)
                                              have n1_ := Aside0.mk (Kd.R_elder' (by (with_reducible repeat (first | apply Kd.R_alloc | apply Kd.R_drewN | apply Kd.R_drew)); exact HO_8.out) (Kd.R_base ho38) hb)
                                              have n2_ := Aside0.mk (Kd.R_elder' (by (with_reducible repeat (first | apply Kd.R_alloc | apply Kd.R_drewN | apply Kd.R_drew)); exact HO258.out) (Kd.R_base ho38) hb)
                                              have n3_ := Aside0.mk (Kd.R_elder' (by (with_reducible repeat (first | apply Kd.R_alloc | apply Kd.R_drewN | apply Kd.R_drew)); exact HO264.out) (Kd.R_base ho38) hb)
                                              have n4_ := Aside0.mk (Kd.R_lower (Kd.R_new' (Kd.R_new' (Kd.R_new' (Kd.R_new' ho38 (Kd.R_lt (by (with_reducible repeat (first | apply Kd.R_alloc | apply Kd.R_drewN | apply Kd.R_drew)); exact HO_7.out))) (Kd.R_lt (by (with_reducible repeat (first | apply Kd.R_alloc | apply Kd.R_drewN | apply Kd.R_drew)); exact HO_8.out))) (Kd.R_lt (by (with_reducible repeat (first | apply Kd.R_alloc | apply Kd.R_drewN | apply Kd.R_drew)); exact HO258.out))) (Kd.R_lt (by (with_reducible repeat (first | apply Kd.R_alloc | apply Kd.R_drewN | apply Kd.R_drew)); exact HO264.out))) (below_size (by repeat (first | (with_reducible first | exact HB.out | apply below_alloc | apply pw_below_drewN | apply below_drew1) | exact HB.out))))
                                              have n5_ := Aside0.mk (below_step (by repeat (first | (with_reducible first | exact HB.out | apply below_alloc | apply pw_below_drewN | apply below_drew1) | exact HB.out)) hb)
                                              clear HO_7
                                              clear HO_8
                                              clear HO258
                                              clear HO264
                                              clear HB
                                              have HO_7 := n0_
                                              have HO_8 := n1_
                                              have HO258 := n2_
                                              have HO264 := n3_
                                              have HO270 := n4_
                                              have HB := n5_
                                              clear n0_ n1_ n2_ n3_ n4_ n5_
                                              clear hb ho38
                                              obtain ⟨Ao40, co40, eo40⟩ := Kd.R_slice HO264.out
                                              (first | subst eo40 | (injection eo40 with f1_ f2_ f3_; have f4_ := f1_.symm; have f5_ := f3_.symm; clear f1_ f2_ f3_; subst f4_; subst f5_))
                                              refine hK.out _ _ trivial (fun hHeld => ?_)
                                              clear hK K
                                              refine norm_ (a' := ?_) ?_ ?_
                                              rotate_left
                                              · show Act.put _ (some 54) _ = _
                                                simp only [Act.put, List.setIfInBounds_toArray, List.set_cons_zero, List.set_cons_succ, i64_w, i32_w]
                                                rfl
                                              refine one_ (i := 3) (N := some 48) #[true, true, true, true, true, true, true, true, true, true, false, false, false] rfl rfl (one_of HT_.out (by kernel_rfl)) (by decide) (fun K hK => ?_)
                                              refine Kd.R_append_rows_step Kd.string (w0 := w) w.heap.size (by rfl) (.tmp 45) (.tmp 47) 22 9 (.string ⟨#[]⟩) 16 rfl Try.underlying22 info9 rfl (by decide) (by omega) (.slice Ao32 x7_1.length co32) x7_1 y262 _ _ _ (fun k_ => some k_ ≠ (.slice Ao33 x8_1.length co33 : Value).ownBlock ∧ some k_ ≠ (.slice (some adz_v257) y256.length co31 : Value).ownBlock ∧ some k_ ≠ (.slice Ao40 y262.length co40 : Value).ownBlock ∧ some k_ ≠ (v269 : Value).ownBlock) (fun _ => False) rfl rfl ?aO ?aR (fun _ _ h => h) (fun _ h => h.elim) ?aF ?aB ?aS ?aL ?_
                                              (case aR => repeat (first | exact (Kd.R_reads' HO264.out).2.2 | (with_reducible refine Kd.C_alloc ?_ _) | (with_reducible refine Kd.C_drewN ?_ _) | (with_reducible refine Kd.C_drew ?_)))
                                              (case aB => exact (by repeat (first | (with_reducible first | exact HB.out | apply below_alloc | apply pw_below_drewN | apply below_drew1) | exact HB.out)))
                                              (case aF => exact (fun k_ hk => ⟨Kd.fresh' (Kd.R_lt (by (with_reducible repeat (first | apply Kd.R_alloc | apply Kd.R_drewN | apply Kd.R_drew)); exact HO_8.out)) k_ hk, Kd.fresh' (Kd.R_lt (by (with_reducible repeat (first | apply Kd.R_alloc | apply Kd.R_drewN | apply Kd.R_drew)); exact HO258.out)) k_ hk, Kd.fresh' (Kd.R_lt (by (with_reducible repeat (first | apply Kd.R_alloc | apply Kd.R_drewN | apply Kd.R_drew)); exact HO264.out)) k_ hk, Kd.fresh' (Kd.R_lt (by (with_reducible repeat (first | apply Kd.R_alloc | apply Kd.R_drewN | apply Kd.R_drew)); exact HO270.out)) k_ hk⟩))
                                              (case aO => exact (by (with_reducible repeat (first | apply Kd.R_alloc | apply Kd.R_drewN | apply Kd.R_drew)); exact Kd.R_mono HO_7.out (fun _ hk => ⟨hk.1.1.2, ⟨hk.1.1.1, ⟨hk.1.2, hk.2⟩⟩⟩)))
                                              (case aS => exact (below_size (by repeat (first | (with_reducible first | exact HB.out | apply below_alloc | apply pw_below_drewN | apply below_drew1) | exact HB.out))))
                                              (case aL => have := LMc21.out; omega)
                                              intro v266 w39 ho hb hg hat
                                              rw [← Ny265.out] at ho
                                              have n0_ := Aside0.mk (Kd.R_after (ok := (fun k_ => some k_ ≠ (.slice (some adz_v257) y256.length co31 : Value).ownBlock ∧ some k_ ≠ (.slice Ao40 y262.length co40 : Value).ownBlock ∧ some k_ ≠ (v269 : Value).ownBlock)) (by (with_reducible repeat (first | apply Kd.R_alloc | apply Kd.R_drewN | apply Kd.R_drew)); exact Kd.R_mono HO_8.out (fun _ hk => ⟨⟨hk.1.1.1, ⟨hk.1.2, hk.2⟩⟩, hk.1.1.2⟩)) hg hat)
                                              have n1_ := Aside0.mk (Kd.R_after (ok := (fun k_ => some k_ ≠ (.slice Ao33 x8_1.length co33 : Value).ownBlock ∧ some k_ ≠ (.slice Ao40 y262.length co40 : Value).ownBlock ∧ some k_ ≠ (v269 : Value).ownBlock)) (by (with_reducible repeat (first | apply Kd.R_alloc | apply Kd.R_drewN | apply Kd.R_drew)); exact Kd.R_mono HO258.out (fun _ hk => ⟨⟨hk.1.1.2, ⟨hk.1.2, hk.2⟩⟩, hk.1.1.1⟩)) hg hat)
                                              have n2_ := Aside0.mk (Kd.R_after (ok := (fun k_ => some k_ ≠ (.slice Ao33 x8_1.length co33 : Value).ownBlock ∧ some k_ ≠ (.slice (some adz_v257) y256.length co31 : Value).ownBlock ∧ some k_ ≠ (v269 : Value).ownBlock)) (by (with_reducible repeat (first | apply Kd.R_alloc | apply Kd.R_drewN | apply Kd.R_drew)); exact Kd.R_mono HO264.out (fun _ hk => ⟨⟨hk.1.1.2, ⟨hk.1.2, hk.2⟩⟩, hk.1.1.1.2⟩)) hg hat)
                                              have n3_ := Aside0.mk (Kd.R_after (ok := (fun k_ => some k_ ≠ (.slice Ao33 x8_1.length co33 : Value).ownBlock ∧ some k_ ≠ (.slice (some adz_v257) y256.length co31 : Value).ownBlock ∧ some k_ ≠ (.slice Ao40 y262.length co40 : Value).ownBlock)) (by (with_reducible repeat (first | apply Kd.R_alloc | apply Kd.R_drewN | apply Kd.R_drew)); exact Kd.R_mono HO270.out (fun _ hk => ⟨⟨hk.1.1.2, ⟨hk.1.2, hk.2⟩⟩, hk.1.1.1.2⟩)) hg hat)
                                              have n4_ := Aside0.mk (hb)
                                              have n5_ := Aside0.mk (ho)
                                              clear HO_8
                                              clear HO258
                                              clear HO264
                                              clear HO270
                                              clear HB
                                              clear HO_7
                                              have HO_8 := n0_
                                              have HO258 := n1_
                                              have HO264 := n2_
                                              have HO270 := n3_
                                              have HB := n4_
                                              have HO267 := n5_
                                              clear n0_ n1_ n2_ n3_ n4_ n5_
                                              clear ho hb hg hat
                                              refine hK.out _ _ trivial (fun hHeld => ?_)
                                              clear hK K
                                              refine norm_ (a' := ?_) ?_ ?_
                                              rotate_left
                                              · show Act.put _ (some 48) _ = _
                                                simp only [Act.put, List.setIfInBounds_toArray, List.set_cons_zero, List.set_cons_succ, i64_w, i32_w]
                                                rfl
                                              exact norm_ (by simp only [putAll, Act.put, List.setIfInBounds_toArray, List.set_cons_zero, List.set_cons_succ]) (hCont (.slice Ao40 y262.length co40, v266, v269) _ ⟨(by (with_reducible repeat (first | apply Kd.R_alloc | apply Kd.R_drewN | apply Kd.R_drew)); exact Kd.R_mono HO258.out (fun _ hk => ⟨hk.1.2.1, ⟨hk.2, ⟨hk.1.2.2, hk.1.1⟩⟩⟩)), (by (with_reducible repeat (first | apply Kd.R_alloc | apply Kd.R_drewN | apply Kd.R_drew)); exact Kd.R_mono HO264.out (fun _ hk => ⟨hk.1.2.1, ⟨hk.2, ⟨hk.1.2.2, hk.1.1⟩⟩⟩)), (by (with_reducible repeat (first | apply Kd.R_alloc | apply Kd.R_drewN | apply Kd.R_drew)); exact Kd.R_mono HO267.out (fun _ hk => ⟨hk.2.1, ⟨hk.2.2.1, ⟨hk.2.2.2, hk.1⟩⟩⟩)), (by (with_reducible repeat (first | apply Kd.R_alloc | apply Kd.R_drewN | apply Kd.R_drew)); exact Kd.R_mono HO270.out (fun _ hk => ⟨hk.1.2.1, ⟨hk.1.2.2, ⟨hk.2, hk.1.1⟩⟩⟩)), (by (with_reducible repeat (first | apply Kd.R_alloc | apply Kd.R_drewN | apply Kd.R_drew)); exact Kd.R_mono HO_8.out (fun _ hk => ⟨hk.1.1, ⟨hk.1.2.1, ⟨hk.2, hk.1.2.2⟩⟩⟩)), (by repeat (first | (with_reducible first | exact HB.out | apply below_alloc | apply pw_below_drewN | apply below_drew1) | exact HB.out))⟩)
                                          · skip
                                            refine Kd.R_lit_step Kd.string _ 9 ?hg (N := 54) ?hd (xs := ([((⟨#[32, 32, 32, 32, 32, 32, 32, 32, 32]⟩ : ByteArray).extract 0 (t253 : Int).toNat) ++ ((((⟨#[32, 32, 32, 32, 32, 32]⟩ : ByteArray).extract 0 (t255 : Int).toNat) ++ (rdOf ByteArray.empty y256 t260)) ++ (⟨#[10]⟩ : ByteArray))] : List ByteArray)) (inner := [.string (((⟨#[32, 32, 32, 32, 32, 32, 32, 32, 32]⟩ : ByteArray).extract 0 (t253 : Int).toNat) ++ ((((⟨#[32, 32, 32, 32, 32, 32]⟩ : ByteArray).extract 0 (t255 : Int).toNat) ++ (rdOf ByteArray.empty y256 t260)) ++ (⟨#[10]⟩ : ByteArray)))]) (ok := fun _ => True) (okp := fun _ => True) ?hr ?hp (fun _ hk => hk) trivial (Below.refl _ _) (Nat.le_refl _) (by simp) ?_; (case hd => rfl); (case hg => rfl); (case hr => first | (go_simp; done) | (go_simp; rfl)); (case hp => exact (Reps.one (show Kd.M Kd.string _ _ _ (((⟨#[32, 32, 32, 32, 32, 32, 32, 32, 32]⟩ : ByteArray).extract 0 (t253 : Int).toNat) ++ ((((⟨#[32, 32, 32, 32, 32, 32]⟩ : ByteArray).extract 0 (t255 : Int).toNat) ++ (rdOf ByteArray.empty y256 t260)) ++ (⟨#[10]⟩ : ByteArray))) [.string (((⟨#[32, 32, 32, 32, 32, 32, 32, 32, 32]⟩ : ByteArray).extract 0 (t253 : Int).toNat) ++ ((((⟨#[32, 32, 32, 32, 32, 32]⟩ : ByteArray).extract 0 (t255 : Int).toNat) ++ (rdOf ByteArray.empty y256 t260)) ++ (⟨#[10]⟩ : ByteArray)))] from rfl) (Reps.none _ _)))
                                            intro v269 w35 ho36 hb hg_ hnew_
                                            clear hg_ hnew_
                                            (first | rw [← Ny268.out] at ho36 | (simp only [Int.reduceToNat] at ho36; rw [← Ny268.out] at ho36))
                                            have n0_ := Aside0.mk (Kd.R_elder' (by (with_reducible repeat (first | apply Kd.R_alloc | apply Kd.R_drewN | apply Kd.R_drew)); exact HO_7.out) (Kd.R_base ho36) hb)
                                            have n1_ := Aside0.mk (Kd.R_elder' (by (with_reducible repeat (first | apply Kd.R_alloc | apply Kd.R_drewN | apply Kd.R_drew)); exact HO_8.out) (Kd.R_base ho36) hb)
                                            have n2_ := Aside0.mk (Kd.R_elder' (by (with_reducible repeat (first | apply Kd.R_alloc | apply Kd.R_drewN | apply Kd.R_drew)); exact HO258.out) (Kd.R_base ho36) hb)
                                            have n3_ := Aside0.mk (Kd.R_lower (Kd.R_new' (Kd.R_new' (Kd.R_new' ho36 (Kd.R_lt (by (with_reducible repeat (first | apply Kd.R_alloc | apply Kd.R_drewN | apply Kd.R_drew)); exact HO_7.out))) (Kd.R_lt (by (with_reducible repeat (first | apply Kd.R_alloc | apply Kd.R_drewN | apply Kd.R_drew)); exact HO_8.out))) (Kd.R_lt (by (with_reducible repeat (first | apply Kd.R_alloc | apply Kd.R_drewN | apply Kd.R_drew)); exact HO258.out))) (below_size (by repeat (first | (with_reducible first | exact HB.out | apply below_alloc | apply pw_below_drewN | apply below_drew1) | exact HB.out))))
                                            have n4_ := Aside0.mk (below_step (by repeat (first | (with_reducible first | exact HB.out | apply below_alloc | apply pw_below_drewN | apply below_drew1) | exact HB.out)) hb)
                                            clear HO_7
                                            clear HO_8
                                            clear HO258
                                            clear HB
                                            have HO_7 := n0_
                                            have HO_8 := n1_
                                            have HO258 := n2_
                                            have HO270 := n3_
                                            have HB := n4_
                                            clear n0_ n1_ n2_ n3_ n4_
                                            clear hb ho36
                                            refine hK.out _ _ trivial (fun hHeld => ?_)
                                            clear hK K
                                            refine norm_ (a' := ?_) ?_ ?_
                                            rotate_left
                                            · show Act.put _ (some 54) _ = _
                                              simp only [Act.put, List.setIfInBounds_toArray, List.set_cons_zero, List.set_cons_succ, i64_w, i32_w]
                                              rfl
                                            refine one_ (i := 2) (N := some 47) #[true, true, true, false, true, true, true, true, true, true, false, false, false] rfl rfl (one_of HT_.out (by kernel_rfl)) (by decide) (fun K hK => ?_)
                                            refine Kd.R_lit_step Kd.string _ 9 ?hg (N := 47) ?hd (xs := ([(((⟨#[32, 32, 32, 32, 32, 32]⟩ : ByteArray).extract 0 (t255 : Int).toNat) ++ (rdOf ByteArray.empty y256 t260)) ++ (⟨#[10]⟩ : ByteArray)] : List ByteArray)) (inner := [.string ((((⟨#[32, 32, 32, 32, 32, 32]⟩ : ByteArray).extract 0 (t255 : Int).toNat) ++ (rdOf ByteArray.empty y256 t260)) ++ (⟨#[10]⟩ : ByteArray))]) (ok := fun _ => True) (okp := fun _ => True) ?hr ?hp (fun _ hk => hk) trivial (Below.refl _ _) (Nat.le_refl _) (by simp) ?_; (case hd => rfl); (case hg => rfl); (case hr => first | (go_simp; done) | (go_simp; rfl)); (case hp => exact (Reps.one (show Kd.M Kd.string _ _ _ ((((⟨#[32, 32, 32, 32, 32, 32]⟩ : ByteArray).extract 0 (t255 : Int).toNat) ++ (rdOf ByteArray.empty y256 t260)) ++ (⟨#[10]⟩ : ByteArray)) [.string ((((⟨#[32, 32, 32, 32, 32, 32]⟩ : ByteArray).extract 0 (t255 : Int).toNat) ++ (rdOf ByteArray.empty y256 t260)) ++ (⟨#[10]⟩ : ByteArray))] from rfl) (Reps.none _ _)))
                                            intro v263 w37 ho38 hb hg_ hnew_
                                            clear hg_ hnew_
                                            (first | rw [← Ny262.out] at ho38 | (simp only [Int.reduceToNat] at ho38; rw [← Ny262.out] at ho38))
                                            have n0_ := Aside0.mk (Kd.R_elder' (by (with_reducible repeat (first | apply Kd.R_alloc | apply Kd.R_drewN | apply Kd.R_drew)); exact HO_7.out) (Kd.R_base ho38) hb)
                                            have n1_ := Aside0.mk (Kd.R_elder' (by (with_reducible repeat (first | apply Kd.R_alloc | apply Kd.R_drewN | apply Kd.R_drew)); exact HO_8.out) (Kd.R_base ho38) hb)
                                            have n2_ := Aside0.mk (Kd.R_elder' (by (with_reducible repeat (first | apply Kd.R_alloc | apply Kd.R_drewN | apply Kd.R_drew)); exact HO258.out) (Kd.R_base ho38) hb)
                                            have n3_ := Aside0.mk (Kd.R_elder' (by (with_reducible repeat (first | apply Kd.R_alloc | apply Kd.R_drewN | apply Kd.R_drew)); exact HO270.out) (Kd.R_base ho38) hb)
                                            have n4_ := Aside0.mk (Kd.R_lower (Kd.R_new' (Kd.R_new' (Kd.R_new' (Kd.R_new' ho38 (Kd.R_lt (by (with_reducible repeat (first | apply Kd.R_alloc | apply Kd.R_drewN | apply Kd.R_drew)); exact HO_7.out))) (Kd.R_lt (by (with_reducible repeat (first | apply Kd.R_alloc | apply Kd.R_drewN | apply Kd.R_drew)); exact HO_8.out))) (Kd.R_lt (by (with_reducible repeat (first | apply Kd.R_alloc | apply Kd.R_drewN | apply Kd.R_drew)); exact HO258.out))) (Kd.R_lt (by (with_reducible repeat (first | apply Kd.R_alloc | apply Kd.R_drewN | apply Kd.R_drew)); exact HO270.out))) (below_size (by repeat (first | (with_reducible first | exact HB.out | apply below_alloc | apply pw_below_drewN | apply below_drew1) | exact HB.out))))
                                            have n5_ := Aside0.mk (below_step (by repeat (first | (with_reducible first | exact HB.out | apply below_alloc | apply pw_below_drewN | apply below_drew1) | exact HB.out)) hb)
                                            clear HO_7
                                            clear HO_8
                                            clear HO258
                                            clear HO270
                                            clear HB
                                            have HO_7 := n0_
                                            have HO_8 := n1_
                                            have HO258 := n2_
                                            have HO270 := n3_
                                            have HO264 := n4_
                                            have HB := n5_
                                            clear n0_ n1_ n2_ n3_ n4_ n5_
                                            clear hb ho38
                                            obtain ⟨Ao40, co40, eo40⟩ := Kd.R_slice HO264.out
                                            (first | subst eo40 | (injection eo40 with f1_ f2_ f3_; have f4_ := f1_.symm; have f5_ := f3_.symm; clear f1_ f2_ f3_; subst f4_; subst f5_))
                                            refine hK.out _ _ trivial (fun hHeld => ?_)
                                            clear hK K
                                            refine norm_ (a' := ?_) ?_ ?_
                                            rotate_left
                                            · show Act.put _ (some 47) _ = _
                                              simp only [Act.put, List.setIfInBounds_toArray, List.set_cons_zero, List.set_cons_succ, i64_w, i32_w]
                                              rfl
                                            refine one_ (i := 3) (N := some 48) #[true, true, true, true, true, true, true, true, true, true, false, false, false] rfl rfl (one_of HT_.out (by kernel_rfl)) (by decide) (fun K hK => ?_)
                                            refine Kd.R_append_rows_step Kd.string (w0 := w) w.heap.size (by rfl) (.tmp 45) (.tmp 47) 22 9 (.string ⟨#[]⟩) 16 rfl Try.underlying22 info9 rfl (by decide) (by omega) (.slice Ao32 x7_1.length co32) x7_1 y262 _ _ _ (fun k_ => some k_ ≠ (.slice Ao33 x8_1.length co33 : Value).ownBlock ∧ some k_ ≠ (.slice (some adz_v257) y256.length co31 : Value).ownBlock ∧ some k_ ≠ (v269 : Value).ownBlock ∧ some k_ ≠ (.slice Ao40 y262.length co40 : Value).ownBlock) (fun _ => False) rfl rfl ?aO ?aR (fun _ _ h => h) (fun _ h => h.elim) ?aF ?aB ?aS ?aL ?_
                                            (case aR => repeat (first | exact (Kd.R_reads' HO264.out).2.2 | (with_reducible refine Kd.C_alloc ?_ _) | (with_reducible refine Kd.C_drewN ?_ _) | (with_reducible refine Kd.C_drew ?_)))
                                            (case aB => exact (by repeat (first | (with_reducible first | exact HB.out | apply below_alloc | apply pw_below_drewN | apply below_drew1) | exact HB.out)))
                                            (case aF => exact (fun k_ hk => ⟨Kd.fresh' (Kd.R_lt (by (with_reducible repeat (first | apply Kd.R_alloc | apply Kd.R_drewN | apply Kd.R_drew)); exact HO_8.out)) k_ hk, Kd.fresh' (Kd.R_lt (by (with_reducible repeat (first | apply Kd.R_alloc | apply Kd.R_drewN | apply Kd.R_drew)); exact HO258.out)) k_ hk, Kd.fresh' (Kd.R_lt (by (with_reducible repeat (first | apply Kd.R_alloc | apply Kd.R_drewN | apply Kd.R_drew)); exact HO270.out)) k_ hk, Kd.fresh' (Kd.R_lt (by (with_reducible repeat (first | apply Kd.R_alloc | apply Kd.R_drewN | apply Kd.R_drew)); exact HO264.out)) k_ hk⟩))
                                            (case aO => exact (by (with_reducible repeat (first | apply Kd.R_alloc | apply Kd.R_drewN | apply Kd.R_drew)); exact Kd.R_mono HO_7.out (fun _ hk => ⟨hk.1.1.2, ⟨hk.1.1.1, ⟨hk.1.2, hk.2⟩⟩⟩)))
                                            (case aS => exact (below_size (by repeat (first | (with_reducible first | exact HB.out | apply below_alloc | apply pw_below_drewN | apply below_drew1) | exact HB.out))))
                                            (case aL => have := LMc21.out; omega)
                                            intro v266 w39 ho hb hg hat
                                            rw [← Ny265.out] at ho
                                            have n0_ := Aside0.mk (Kd.R_after (ok := (fun k_ => some k_ ≠ (.slice (some adz_v257) y256.length co31 : Value).ownBlock ∧ some k_ ≠ (v269 : Value).ownBlock ∧ some k_ ≠ (.slice Ao40 y262.length co40 : Value).ownBlock)) (by (with_reducible repeat (first | apply Kd.R_alloc | apply Kd.R_drewN | apply Kd.R_drew)); exact Kd.R_mono HO_8.out (fun _ hk => ⟨⟨hk.1.1.1, ⟨hk.1.2, hk.2⟩⟩, hk.1.1.2⟩)) hg hat)
                                            have n1_ := Aside0.mk (Kd.R_after (ok := (fun k_ => some k_ ≠ (.slice Ao33 x8_1.length co33 : Value).ownBlock ∧ some k_ ≠ (v269 : Value).ownBlock ∧ some k_ ≠ (.slice Ao40 y262.length co40 : Value).ownBlock)) (by (with_reducible repeat (first | apply Kd.R_alloc | apply Kd.R_drewN | apply Kd.R_drew)); exact Kd.R_mono HO258.out (fun _ hk => ⟨⟨hk.1.1.2, ⟨hk.1.2, hk.2⟩⟩, hk.1.1.1⟩)) hg hat)
                                            have n2_ := Aside0.mk (Kd.R_after (ok := (fun k_ => some k_ ≠ (.slice Ao33 x8_1.length co33 : Value).ownBlock ∧ some k_ ≠ (.slice (some adz_v257) y256.length co31 : Value).ownBlock ∧ some k_ ≠ (.slice Ao40 y262.length co40 : Value).ownBlock)) (by (with_reducible repeat (first | apply Kd.R_alloc | apply Kd.R_drewN | apply Kd.R_drew)); exact Kd.R_mono HO270.out (fun _ hk => ⟨⟨hk.1.1.2, ⟨hk.1.2, hk.2⟩⟩, hk.1.1.1.2⟩)) hg hat)
                                            have n3_ := Aside0.mk (Kd.R_after (ok := (fun k_ => some k_ ≠ (.slice Ao33 x8_1.length co33 : Value).ownBlock ∧ some k_ ≠ (.slice (some adz_v257) y256.length co31 : Value).ownBlock ∧ some k_ ≠ (v269 : Value).ownBlock)) (by (with_reducible repeat (first | apply Kd.R_alloc | apply Kd.R_drewN | apply Kd.R_drew)); exact Kd.R_mono HO264.out (fun _ hk => ⟨⟨hk.1.1.2, ⟨hk.1.2, hk.2⟩⟩, hk.1.1.1.2⟩)) hg hat)
                                            have n4_ := Aside0.mk (hb)
                                            have n5_ := Aside0.mk (ho)
                                            clear HO_8
                                            clear HO258
                                            clear HO270
                                            clear HO264
                                            clear HB
                                            clear HO_7
                                            have HO_8 := n0_
                                            have HO258 := n1_
                                            have HO270 := n2_
                                            have HO264 := n3_
                                            have HB := n4_
                                            have HO267 := n5_
                                            clear n0_ n1_ n2_ n3_ n4_ n5_
                                            clear ho hb hg hat
                                            refine hK.out _ _ trivial (fun hHeld => ?_)
                                            clear hK K
                                            refine norm_ (a' := ?_) ?_ ?_
                                            rotate_left
                                            · show Act.put _ (some 48) _ = _
                                              simp only [Act.put, List.setIfInBounds_toArray, List.set_cons_zero, List.set_cons_succ, i64_w, i32_w]
                                              rfl
                                            exact norm_ (by simp only [putAll, Act.put, List.setIfInBounds_toArray, List.set_cons_zero, List.set_cons_succ]) (hCont (.slice Ao40 y262.length co40, v266, v269) _ ⟨(by (with_reducible repeat (first | apply Kd.R_alloc | apply Kd.R_drewN | apply Kd.R_drew)); exact Kd.R_mono HO258.out (fun _ hk => ⟨hk.1.2.2, ⟨hk.2, ⟨hk.1.2.1, hk.1.1⟩⟩⟩)), (by (with_reducible repeat (first | apply Kd.R_alloc | apply Kd.R_drewN | apply Kd.R_drew)); exact Kd.R_mono HO264.out (fun _ hk => ⟨hk.1.2.1, ⟨hk.2, ⟨hk.1.2.2, hk.1.1⟩⟩⟩)), (by (with_reducible repeat (first | apply Kd.R_alloc | apply Kd.R_drewN | apply Kd.R_drew)); exact Kd.R_mono HO267.out (fun _ hk => ⟨hk.2.1, ⟨hk.2.2.2, ⟨hk.2.2.1, hk.1⟩⟩⟩)), (by (with_reducible repeat (first | apply Kd.R_alloc | apply Kd.R_drewN | apply Kd.R_drew)); exact Kd.R_mono HO270.out (fun _ hk => ⟨hk.1.2.1, ⟨hk.1.2.2, ⟨hk.2, hk.1.1⟩⟩⟩)), (by (with_reducible repeat (first | apply Kd.R_alloc | apply Kd.R_drewN | apply Kd.R_drew)); exact Kd.R_mono HO_8.out (fun _ hk => ⟨hk.1.1, ⟨hk.1.2.2, ⟨hk.2, hk.1.2.1⟩⟩⟩)), (by repeat (first | (with_reducible first | exact HB.out | apply below_alloc | apply pw_below_drewN | apply below_drew1) | exact HB.out))⟩)
                                        rintro ⟨v263, v266, v269⟩ w41 ⟨h0_, h1_, h2_, h3_, h4_, h5_⟩
                                        have n0_ : Aside0 (Kd.R Kd.string 9 w41 w.heap.size (fun k_ => some k_ ≠ (v263 : Value).ownBlock ∧ some k_ ≠ (v266 : Value).ownBlock ∧ some k_ ≠ (v269 : Value).ownBlock ∧ some k_ ≠ (.slice Ao33 x8_1.length co33 : Value).ownBlock) (.slice (some adz_v257) y256.length co31) y256) := ⟨h0_⟩
                                        have n1_ : Aside0 (Kd.R Kd.string 9 w41 w.heap.size (fun k_ => some k_ ≠ (.slice (some adz_v257) y256.length co31 : Value).ownBlock ∧ some k_ ≠ (v266 : Value).ownBlock ∧ some k_ ≠ (v269 : Value).ownBlock ∧ some k_ ≠ (.slice Ao33 x8_1.length co33 : Value).ownBlock) v263 y262) := ⟨h1_⟩
                                        have n2_ : Aside0 (Kd.R Kd.string 9 w41 w.heap.size (fun k_ => some k_ ≠ (.slice (some adz_v257) y256.length co31 : Value).ownBlock ∧ some k_ ≠ (v263 : Value).ownBlock ∧ some k_ ≠ (v269 : Value).ownBlock ∧ some k_ ≠ (.slice Ao33 x8_1.length co33 : Value).ownBlock) v266 y265) := ⟨h2_⟩
                                        have n3_ : Aside0 (Kd.R Kd.string 9 w41 w.heap.size (fun k_ => some k_ ≠ (.slice (some adz_v257) y256.length co31 : Value).ownBlock ∧ some k_ ≠ (v263 : Value).ownBlock ∧ some k_ ≠ (v266 : Value).ownBlock ∧ some k_ ≠ (.slice Ao33 x8_1.length co33 : Value).ownBlock) v269 y268) := ⟨h3_⟩
                                        have n4_ : Aside0 (Kd.R Kd.string 9 w41 w.heap.size (fun k_ => some k_ ≠ (.slice (some adz_v257) y256.length co31 : Value).ownBlock ∧ some k_ ≠ (v263 : Value).ownBlock ∧ some k_ ≠ (v266 : Value).ownBlock ∧ some k_ ≠ (v269 : Value).ownBlock) (.slice Ao33 x8_1.length co33) x8_1) := ⟨h4_⟩
                                        have n5_ : Aside0 (Below w.heap.size w w41) := ⟨h5_⟩
                                        clear HO_7
                                        clear HO_8
                                        clear HO258
                                        clear HB
                                        clear h0_ h1_ h2_ h3_ h4_ h5_
                                        have HO258 := n0_
                                        have HO264 := n1_
                                        have HO267 := n2_
                                        have HO270 := n3_
                                        have HO_8 := n4_
                                        have HB := n5_
                                        clear n0_ n1_ n2_ n3_ n4_ n5_
                                        have hHeld := trivial
                                        obtain ⟨Ao43, co43, eo43⟩ := Kd.R_slice HO270.out
                                        (first | subst eo43 | (injection eo43 with f1_ f2_ f3_; have f4_ := f1_.symm; have f5_ := f3_.symm; clear f1_ f2_ f3_; subst f4_; subst f5_))
                                        refine norm_ (a' := ?_) ?_ ?_
                                        rotate_left
                                        · simp only [putAll, Act.put, List.setIfInBounds_toArray, List.set_cons_zero, List.set_cons_succ]
                                          rfl
                                        refine one_ (i := 10) (N := some 55) #[true, true, true, true, true, true, true, true, true, true, true, false, false] rfl rfl (one_of HT_.out (by kernel_rfl)) (by decide) (fun K hK => ?_)
                                        refine Kd.R_append_rows_step Kd.string (w0 := w) w.heap.size (by rfl) (.tmp 49) (.tmp 54) 22 9 (.string ⟨#[]⟩) 16 rfl Try.underlying22 info9 rfl (by decide) (by omega) (.slice Ao33 x8_1.length co33) x8_1 y268 _ _ _ (fun k_ => some k_ ≠ (.slice (some adz_v257) y256.length co31 : Value).ownBlock ∧ some k_ ≠ (v263 : Value).ownBlock ∧ some k_ ≠ (v266 : Value).ownBlock ∧ some k_ ≠ (.slice Ao43 y268.length co43 : Value).ownBlock) (fun _ => False) rfl rfl ?aO ?aR (fun _ _ h => h) (fun _ h => h.elim) ?aF ?aB ?aS ?aL ?_
                                        (case aR => repeat (first | exact (Kd.R_reads' HO270.out).2.2 | (with_reducible refine Kd.C_alloc ?_ _) | (with_reducible refine Kd.C_drewN ?_ _) | (with_reducible refine Kd.C_drew ?_)))
                                        (case aB => exact (by repeat (first | (with_reducible first | exact HB.out | apply below_alloc | apply pw_below_drewN | apply below_drew1) | exact HB.out)))
                                        (case aF => exact (fun k_ hk => ⟨Kd.fresh' (Kd.R_lt (by (with_reducible repeat (first | apply Kd.R_alloc | apply Kd.R_drewN | apply Kd.R_drew)); exact HO258.out)) k_ hk, Kd.fresh' (Kd.R_lt (by (with_reducible repeat (first | apply Kd.R_alloc | apply Kd.R_drewN | apply Kd.R_drew)); exact HO264.out)) k_ hk, Kd.fresh' (Kd.R_lt (by (with_reducible repeat (first | apply Kd.R_alloc | apply Kd.R_drewN | apply Kd.R_drew)); exact HO267.out)) k_ hk, Kd.fresh' (Kd.R_lt (by (with_reducible repeat (first | apply Kd.R_alloc | apply Kd.R_drewN | apply Kd.R_drew)); exact HO270.out)) k_ hk⟩))
                                        (case aO => exact (by (with_reducible repeat (first | apply Kd.R_alloc | apply Kd.R_drewN | apply Kd.R_drew)); exact HO_8.out))
                                        (case aS => exact (below_size (by repeat (first | (with_reducible first | exact HB.out | apply below_alloc | apply pw_below_drewN | apply below_drew1) | exact HB.out))))
                                        (case aL => have := LMc25.out; omega)
                                        intro v272 w42 ho hb hg hat
                                        rw [← Ny271.out] at ho
                                        have n0_ := Aside0.mk (Kd.R_after (ok := (fun k_ => some k_ ≠ (v263 : Value).ownBlock ∧ some k_ ≠ (v266 : Value).ownBlock ∧ some k_ ≠ (.slice Ao43 y268.length co43 : Value).ownBlock)) (by (with_reducible repeat (first | apply Kd.R_alloc | apply Kd.R_drewN | apply Kd.R_drew)); exact Kd.R_mono HO258.out (fun _ hk => ⟨⟨hk.1, ⟨hk.2.1, hk.2.2.1⟩⟩, hk.2.2.2⟩)) hg hat)
                                        have n1_ := Aside0.mk (Kd.R_after (ok := (fun k_ => some k_ ≠ (.slice (some adz_v257) y256.length co31 : Value).ownBlock ∧ some k_ ≠ (v266 : Value).ownBlock ∧ some k_ ≠ (.slice Ao43 y268.length co43 : Value).ownBlock)) (by (with_reducible repeat (first | apply Kd.R_alloc | apply Kd.R_drewN | apply Kd.R_drew)); exact Kd.R_mono HO264.out (fun _ hk => ⟨⟨hk.1, ⟨hk.2.1, hk.2.2.1⟩⟩, hk.2.2.2⟩)) hg hat)
                                        have n2_ := Aside0.mk (Kd.R_after (ok := (fun k_ => some k_ ≠ (.slice (some adz_v257) y256.length co31 : Value).ownBlock ∧ some k_ ≠ (v263 : Value).ownBlock ∧ some k_ ≠ (.slice Ao43 y268.length co43 : Value).ownBlock)) (by (with_reducible repeat (first | apply Kd.R_alloc | apply Kd.R_drewN | apply Kd.R_drew)); exact Kd.R_mono HO267.out (fun _ hk => ⟨⟨hk.1, ⟨hk.2.1, hk.2.2.1⟩⟩, hk.2.2.2⟩)) hg hat)
                                        have n3_ := Aside0.mk (Kd.R_after (ok := (fun k_ => some k_ ≠ (.slice (some adz_v257) y256.length co31 : Value).ownBlock ∧ some k_ ≠ (v263 : Value).ownBlock ∧ some k_ ≠ (v266 : Value).ownBlock)) (by (with_reducible repeat (first | apply Kd.R_alloc | apply Kd.R_drewN | apply Kd.R_drew)); exact Kd.R_mono HO270.out (fun _ hk => ⟨⟨hk.1, ⟨hk.2.1, hk.2.2.1⟩⟩, hk.2.2.2⟩)) hg hat)
                                        have n4_ := Aside0.mk (hb)
                                        have n5_ := Aside0.mk (ho)
                                        clear HO258
                                        clear HO264
                                        clear HO267
                                        clear HO270
                                        clear HB
                                        clear HO_8
                                        have HO258 := n0_
                                        have HO264 := n1_
                                        have HO267 := n2_
                                        have HO270 := n3_
                                        have HB := n4_
                                        have HO273 := n5_
                                        clear n0_ n1_ n2_ n3_ n4_ n5_
                                        clear ho hb hg hat
                                        refine hK.out _ _ trivial (fun hHeld => ?_)
                                        clear hK K
                                        refine norm_ (a' := ?_) ?_ ?_
                                        rotate_left
                                        · show Act.put _ (some 55) _ = _
                                          simp only [Act.put, List.setIfInBounds_toArray, List.set_cons_zero, List.set_cons_succ, i64_w, i32_w]
                                          rfl
                                        refine pure_ (i := 11) (N := some 7) (v := ?_) (a' := ?_) #[true, true, true, true, true, true, true, true, true, true, true, true, false] rfl rfl (any_of HT_.out (by kernel_rfl)) (fun _ _ _ h => h) (Or.inl ⟨by rfl, ?_⟩) ?_ ?_
                                        rotate_left
                                        · intro w'
                                          go_simp
                                          with_reducible rfl
                                        rotate_left
                                        · simp only [Act.put, List.setIfInBounds_toArray, List.set_cons_zero, List.set_cons_succ, i64_w, i32_w]
                                          rfl
                                        refine pure_ (i := 12) (N := some 8) (v := ?_) (a' := ?_) #[true, true, true, true, true, true, true, true, true, true, true, true, true] rfl rfl (any_of HT_.out (by kernel_rfl)) (fun _ _ _ h => h) (Or.inl ⟨by rfl, ?_⟩) ?_ ?_
                                        rotate_left
                                        · intro w'
                                          go_simp
                                          with_reducible rfl
                                        rotate_left
                                        · simp only [Act.put, List.setIfInBounds_toArray, List.set_cons_zero, List.set_cons_succ, i64_w, i32_w]
                                          rfl
                                        refine done_ (done_of HT_.out (by kernel_rfl)) ?_
                                        try go_wp2
                                        go_roundg kj7
                                        case measure => have := HK1.out; have := HJ7.out; omega
                                        case rel => exact ⟨(y265), (y271), (wrap64 (x9_1 + 1)), (by first | rfl | (simp; done) | (simp [*]; done)), H', ⟨by have := HK1.out; have := HJ7.out; omega⟩, ⟨by (with_reducible repeat (first | apply Kd.R_alloc | apply Kd.R_drewN | apply Kd.R_drew)); exact Kd.R_mono HO267.out (fun _ hk => hk.2)⟩, ⟨by (with_reducible repeat (first | apply Kd.R_alloc | apply Kd.R_drewN | apply Kd.R_drew)); exact Kd.R_mono HO273.out (fun _ hk => hk.2.2.1)⟩, ⟨by repeat (first | (with_reducible first | exact HB.out | apply below_alloc | apply pw_below_drewN | apply below_drew1) | exact HB.out)⟩⟩
                                      · rw [if_neg c25] at H
                                        exact absurd H (by simp)
                                    · rw [if_neg c24] at H
                                      exact absurd H (by simp)
                                  · rw [if_neg c23] at H
                                    exact absurd H (by simp)
                                · rw [if_neg c22] at H
                                  exact absurd H (by simp)
                              · rw [if_neg c21] at H
                                exact absurd H (by simp)
                            · rw [if_neg c20] at H
                              exact absurd H (by simp)
                          · rw [if_neg c19] at H
                            exact absurd H (by simp)
                        · rw [if_neg c18] at H
                          exact absurd H (by simp)
                      · rw [if_neg c17] at H
                        exact absurd H (by simp)
                    · rw [if_neg c15] at H
                      exact absurd H (by simp)
                  · rw [if_neg c14] at H
                    exact absurd H (by simp)
                · rw [if_neg c12] at H
                  exact absurd H (by simp)
              · rw [if_neg c11] at H
                exact absurd H (by simp)
            · replace c10 := Bool.eq_false_iff.mpr c10
              subst c10
              have H1 : ((some (([(⟨#[124]⟩ : ByteArray), (⟨#[62]⟩ : ByteArray), (⟨#[124, 45]⟩ : ByteArray), (⟨#[62, 45]⟩ : ByteArray), (⟨#[124, 43]⟩ : ByteArray), (⟨#[62, 43]⟩ : ByteArray)] : List ByteArray) : List ByteArray)).bind fun y274 => ((correctorlaw8_within.f a2 6).bind fun t277 => (if 0 ≤ t277 then (if t277 < (y274.length : Int) then (if (l0.length : Int) > 0 then (if 0 < (l0.length : Int) then ((correctorlaw8_within.f (rd l0 0) 5).bind fun t280 => (correctorlaw8_BlockIndent.j2 kj7 l0 x7_1 x8_1 (rdOf ByteArray.empty y274 t277) t280)) else (none)) else (correctorlaw8_BlockIndent.j2 kj7 l0 x7_1 x8_1 (rdOf ByteArray.empty y274 t277) 9)) else (none)) else (none)))) = some r := by rw [if_neg (show ¬ (false = true) by decide)] at H; exact H
              clear H
              have H := H1
              clear H1
              obtain ⟨y274, hy274⟩ : ∃ y_ : List ByteArray, y_ = (([(⟨#[124]⟩ : ByteArray), (⟨#[62]⟩ : ByteArray), (⟨#[124, 45]⟩ : ByteArray), (⟨#[62, 45]⟩ : ByteArray), (⟨#[124, 43]⟩ : ByteArray), (⟨#[62, 43]⟩ : ByteArray)] : List ByteArray)) := ⟨_, rfl⟩
              replace H : ((correctorlaw8_within.f a2 6).bind fun t277 => (if 0 ≤ t277 then (if t277 < (y274.length : Int) then (if (l0.length : Int) > 0 then (if 0 < (l0.length : Int) then ((correctorlaw8_within.f (rd l0 0) 5).bind fun t280 => (correctorlaw8_BlockIndent.j2 kj7 l0 x7_1 x8_1 (rdOf ByteArray.empty y274 t277) t280)) else (none)) else (correctorlaw8_BlockIndent.j2 kj7 l0 x7_1 x8_1 (rdOf ByteArray.empty y274 t277) 9)) else (none)) else (none))) = some r := by first | (rw [hy274]; with_reducible exact H) | (have H2_ := (Option.bind_some _ _).symm.trans H; rw [hy274]; with_reducible exact H2_) | (have H2_ := (Option.bind_some _ _).symm.trans H; with_reducible exact H2_) | with_reducible exact H | (rw [hy274]; exact H) | exact H
              have Ny274 := Aside0.mk hy274
              clear hy274
              replace H := Option.bind_eq_some_iff.mp H
              obtain ⟨t277, A440, H⟩ := H
              replace H : (if 0 ≤ t277 then (if t277 < (y274.length : Int) then (if (l0.length : Int) > 0 then (if 0 < (l0.length : Int) then ((correctorlaw8_within.f (rd l0 0) 5).bind fun t280 => (correctorlaw8_BlockIndent.j2 kj7 l0 x7_1 x8_1 (rdOf ByteArray.empty y274 t277) t280)) else (none)) else (correctorlaw8_BlockIndent.j2 kj7 l0 x7_1 x8_1 (rdOf ByteArray.empty y274 t277) 9)) else (none)) else (none)) = some r := H
              have A44 := Aside0.mk A440
              clear A440
              by_cases c45 : 0 ≤ t277
              · rw [if_pos c45] at H
                have c45b0 : decide (0 ≤ t277) = true := decide_eq_true c45
                clear c45
                by_cases c46 : t277 < (y274.length : Int)
                · rw [if_pos c46] at H
                  have c46b0 : decide (t277 < (y274.length : Int)) = true := decide_eq_true c46
                  clear c46
                  have HC47 := Aside0.mk H
                  clear H
                  go_upto_if 63 with (first | ((with_reducible refine gate_dst (N := 56) rfl ?_); refine Kd.R_lit Kd.string _ 9 ?hg (N := 56) ?hd (xs := ([(⟨#[124]⟩ : ByteArray), (⟨#[62]⟩ : ByteArray), (⟨#[124, 45]⟩ : ByteArray), (⟨#[62, 45]⟩ : ByteArray), (⟨#[124, 43]⟩ : ByteArray), (⟨#[62, 43]⟩ : ByteArray)] : List ByteArray)) (inner := [.string (⟨#[124]⟩ : ByteArray), .string (⟨#[62]⟩ : ByteArray), .string (⟨#[124, 45]⟩ : ByteArray), .string (⟨#[62, 45]⟩ : ByteArray), .string (⟨#[124, 43]⟩ : ByteArray), .string (⟨#[62, 43]⟩ : ByteArray)]) (ok := fun _ => True) (okp := fun _ => True) ?hr ?hp (fun _ hk => hk) trivial (Below.refl _ _) (Nat.le_refl _) (by simp) ?_; (case hd => rfl); (case hg => rfl); (case hr => first | (go_simp; done) | (go_simp; rfl)); (case hp => exact (Reps.one (show Kd.M Kd.string _ _ _ (⟨#[124]⟩ : ByteArray) [.string (⟨#[124]⟩ : ByteArray)] from rfl) (Reps.one (show Kd.M Kd.string _ _ _ (⟨#[62]⟩ : ByteArray) [.string (⟨#[62]⟩ : ByteArray)] from rfl) (Reps.one (show Kd.M Kd.string _ _ _ (⟨#[124, 45]⟩ : ByteArray) [.string (⟨#[124, 45]⟩ : ByteArray)] from rfl) (Reps.one (show Kd.M Kd.string _ _ _ (⟨#[62, 45]⟩ : ByteArray) [.string (⟨#[62, 45]⟩ : ByteArray)] from rfl) (Reps.one (show Kd.M Kd.string _ _ _ (⟨#[124, 43]⟩ : ByteArray) [.string (⟨#[124, 43]⟩ : ByteArray)] from rfl) (Reps.one (show Kd.M Kd.string _ _ _ (⟨#[62, 43]⟩ : ByteArray) [.string (⟨#[62, 43]⟩ : ByteArray)] from rfl) (Reps.none _ _)))))))); intro v275 w48 ho49 hb hg_ hnew_; clear hg_ hnew_; (first | rw [← Ny274.out] at ho49 | (simp only [Int.reduceToNat] at ho49; rw [← Ny274.out] at ho49)); have n0_ := Aside0.mk (Kd.R_elder' (by (with_reducible repeat (first | apply Kd.R_alloc | apply Kd.R_drewN | apply Kd.R_drew)); exact HO_7.out) (Kd.R_base ho49) hb); have n1_ := Aside0.mk (Kd.R_elder' (by (with_reducible repeat (first | apply Kd.R_alloc | apply Kd.R_drewN | apply Kd.R_drew)); exact HO_8.out) (Kd.R_base ho49) hb); have n2_ := Aside0.mk (Kd.R_lower (Kd.R_new' (Kd.R_new' ho49 (Kd.R_lt (by (with_reducible repeat (first | apply Kd.R_alloc | apply Kd.R_drewN | apply Kd.R_drew)); exact HO_7.out))) (Kd.R_lt (by (with_reducible repeat (first | apply Kd.R_alloc | apply Kd.R_drewN | apply Kd.R_drew)); exact HO_8.out))) (below_size (by repeat (first | (with_reducible first | exact HB.out | apply below_alloc | apply pw_below_drewN | apply below_drew1) | exact HB.out)))); have n3_ := Aside0.mk (below_step (by repeat (first | (with_reducible first | exact HB.out | apply below_alloc | apply pw_below_drewN | apply below_drew1) | exact HB.out)) hb); clear HO_7; clear HO_8; clear HB; have HO_7 := n0_; have HO_8 := n1_; have HO276 := n2_; have HB := n3_; clear n0_ n1_ n2_ n3_; clear hb ho49) | ((with_reducible refine gate_callee (f := 10) rfl ?_); refine goesL_ (some 58) rfl rfl Try.func10 (by kernel_rfl) rfl #[.int .i64 a2, .int .i64 6] rfl (by (try simp only [List.map_toArray, List.map_cons, List.map_nil]); first | done | rfl | (simp only [List.length_drop, List.length_take]; rfl) | (simp only [ByteArray.size_extract, Nat.min_self]; done) | (simp only [ByteArray.size_extract, Nat.min_self]; rfl)) ?_; (with_reducible refine (correctorlaw8_within.calls a2 6 t277 _ A44.out).mono ?_); rintro e w' ⟨rfl, ⟨nd, rfl⟩⟩; refine ⟨_, rfl, ?_⟩; obtain ⟨Ao50, co50, eo50⟩ := Kd.R_slice HO276.out; subst eo50; have p278 : 0 ≤ (t277 : Int) := of_decide_eq_true (by first | (with_reducible assumption) | assumption); have q278 : t277 < (y274.length : Int) := of_decide_eq_true (by first | (with_reducible assumption) | assumption); obtain ⟨ad278, e278, hx278_0⟩ := Kd.at_string (Kd.R_reads' HO276.out).2.2 t277 p278 q278; cases e278; replace p278 := eq_true p278; replace q278 := eq_true q278))
                  (try simp only [Act.put, List.setIfInBounds_toArray, List.set_cons_zero, List.set_cons_succ])
                  go_cut [12] (fun v12 wc => ∃ (kq : Nat) (x12_46 : Int), v12 = .int .i64 x12_46 ∧ Aside0 (correctorlaw8_BlockIndent.j2 kq l0 x7_1 x8_1 (rdOf ByteArray.empty y274 t277) x12_46 = some r) ∧ Aside0 (kq ≤ kj7) ∧ Aside0 (Kd.R Kd.string 9 wc w.heap.size (fun k_ => some k_ ≠ (u8 : Value).ownBlock) u7 x7_1) ∧ Aside0 (Kd.R Kd.string 9 wc w.heap.size (fun k_ => some k_ ≠ (u7 : Value).ownBlock) u8 x8_1) ∧ Aside0 (Below w.heap.size w wc))
                  case first =>
                    have H := HC47.out
                    clear HC47
                    by_cases c51 : (l0.length : Int) > 0
                    · rw [if_pos c51] at H
                      have c51b0 : decide (0 < (l0.length : Int)) = true := decide_eq_true c51
                      have c51b1 : decide (0 < l0.length) = true := decide_eq_true (by omega)
                      clear c51
                      (first | rw [c51b0] | (simp only [i64_w, i32_w]; rw [c51b0]) | rw [c51b1] | skip)
                      by_cases c52 : 0 < (l0.length : Int)
                      · rw [if_pos c52] at H
                        have c52b0 : decide (0 < (l0.length : Int)) = true := decide_eq_true c52
                        have c52b1 : decide (0 < l0.length) = true := decide_eq_true (by omega)
                        clear c52
                        replace H := Option.bind_eq_some_iff.mp H
                        obtain ⟨t280, A530, H⟩ := H
                        replace H : (correctorlaw8_BlockIndent.j2 kj7 l0 x7_1 x8_1 (rdOf ByteArray.empty y274 t277) t280) = some r := H
                        have A53 := Aside0.mk A530
                        clear A530
                        have H' := Aside0.mk H
                        clear H
                        have p279 : 0 ≤ (0 : Int) := (by omega)
                        have q279 : 0 < (l0.length : Int) := of_decide_eq_true (by first | (with_reducible assumption) | assumption)
                        obtain ⟨ad279, e279, hx279_0⟩ := Kd.at_int HR0.out 0 p279 q279
                        cases e279
                        have qi279 : (0 < l0.length) = True := eq_true (by omega)
                        (try rw [show ((0 : Int)).toNat = 0 from rfl] at hx279_0)
                        (try rw [Addr.add_zero'] at hx279_0)
                        replace hx279_0 := (HB.out.cell (World.block_lt_of_cell? w _ hx279_0)).trans hx279_0
                        replace p279 := eq_true p279
                        replace q279 := eq_true q279
                        go_wp2_with (first | ((with_reducible refine gate_callee (f := 10) rfl ?_); refine goesL_ (some 67) rfl rfl Try.func10 (by kernel_rfl) rfl #[.int .i64 (rd l0 0), .int .i64 5] rfl (by (try simp only [List.map_toArray, List.map_cons, List.map_nil]); first | done | rfl | (simp only [List.length_drop, List.length_take]; rfl) | (simp only [ByteArray.size_extract, Nat.min_self]; done) | (simp only [ByteArray.size_extract, Nat.min_self]; rfl)) ?_; (with_reducible refine (correctorlaw8_within.calls (rd l0 0) 5 t280 _ A53.out).mono ?_); rintro e w' ⟨rfl, ⟨nd, rfl⟩⟩; refine ⟨_, rfl, ?_⟩))
                        go_meet
                        case rel => exact ⟨_, (t280), (by first | rfl | (simp; done) | (simp [*]; done)), H', ⟨by have := HK1.out; have := HJ7.out; first | omega | exact Nat.le_refl _⟩, ⟨by (with_reducible repeat (first | apply Kd.R_alloc | apply Kd.R_drewN | apply Kd.R_drew)); exact Kd.R_mono HO_7.out (fun _ hk => hk.1)⟩, ⟨by (with_reducible repeat (first | apply Kd.R_alloc | apply Kd.R_drewN | apply Kd.R_drew)); exact Kd.R_mono HO_8.out (fun _ hk => hk.1)⟩, ⟨by repeat (first | (with_reducible first | exact HB.out | apply below_alloc | apply pw_below_drewN | apply below_drew1) | exact HB.out)⟩⟩
                      · rw [if_neg c52] at H
                        exact absurd H (by simp)
                    · rw [if_neg c51] at H
                      have c51b0 : decide (0 < (l0.length : Int)) = false := decide_eq_false c51
                      have c51b1 : decide (0 < l0.length) = false := decide_eq_false (by omega)
                      clear c51
                      (first | rw [c51b0] | (simp only [i64_w, i32_w]; rw [c51b0]) | rw [c51b1] | skip)
                      have H' := Aside0.mk H
                      clear H
                      go_wp2
                      go_meet
                      case rel => exact ⟨_, (9), (by first | rfl | (simp; done) | (simp [*]; done)), H', ⟨by have := HK1.out; have := HJ7.out; first | omega | exact Nat.le_refl _⟩, ⟨by (with_reducible repeat (first | apply Kd.R_alloc | apply Kd.R_drewN | apply Kd.R_drew)); exact Kd.R_mono HO_7.out (fun _ hk => hk.1)⟩, ⟨by (with_reducible repeat (first | apply Kd.R_alloc | apply Kd.R_drewN | apply Kd.R_drew)); exact Kd.R_mono HO_8.out (fun _ hk => hk.1)⟩, ⟨by repeat (first | (with_reducible first | exact HB.out | apply below_alloc | apply pw_below_drewN | apply below_drew1) | exact HB.out)⟩⟩
                  case rest =>
                    clear HC47
                    try clear c1
                    try clear c2
                    try clear p2
                    try clear q2
                    try clear hx2
                    try clear qi2
                    try clear c4
                    try clear c5
                    try clear p6
                    try clear c10
                    try clear c11
                    try clear c12
                    try clear c14
                    try clear c15
                    try clear c17
                    try clear c18
                    try clear c19
                    try clear c20
                    try clear c21
                    try clear c22
                    try clear c23
                    try clear c24
                    try clear c25
                    try clear p26
                    try clear q26
                    try clear hx26
                    try clear p27
                    try clear q27
                    try clear hx27
                    try clear qi27
                    try clear c45
                    try clear c45b0
                    try clear c46
                    try clear c46b0
                    try clear c51
                    try clear c51b0
                    try clear c51b1
                    try clear c52
                    try clear c52b0
                    try clear c52b1
                    try clear hx261_0
                    try clear hx278_0
                    try clear hx279_0
                    try clear p261
                    try clear p278
                    try clear p279
                    try clear q261
                    try clear q278
                    try clear q279
                    obtain ⟨kq, x12_46, rfl, HA, HJ46, HO_7, HO_8, HB⟩ := hcut
                    cases kq with
                    | zero => exact absurd HA.out (by simp [correctorlaw8_BlockIndent.j2])
                    | succ kj46 =>
                      have H := HA.out
                      clear HA
                      simp only [correctorlaw8_BlockIndent.j2] at H
                      have H' := Aside0.mk H
                      clear H
                      go_wp2
                      go_loopg [13] kj46 (fun kq v13 w' => ∃ (x13_4 : Int), v13 = .int .i64 x13_4 ∧ Aside0 (correctorlaw8_BlockIndent.l1 kq l0 x7_1 x8_1 (rdOf ByteArray.empty y274 t277) x12_46 x13_4 = some r) ∧ Aside0 (kq ≤ kj46) ∧ Aside0 (Kd.R Kd.string 9 w' w.heap.size (fun k_ => some k_ ≠ (u8 : Value).ownBlock) u7 x7_1) ∧ Aside0 (Kd.R Kd.string 9 w' w.heap.size (fun k_ => some k_ ≠ (u7 : Value).ownBlock) u8 x8_1) ∧ Aside0 (Below w.heap.size w w'))
                      case atStart => exact ⟨(0), (by first | rfl | (simp; done) | (simp [*]; done)), H', ⟨Nat.le_refl _⟩, ⟨by (with_reducible repeat (first | apply Kd.R_alloc | apply Kd.R_drewN | apply Kd.R_drew)); exact HO_7.out⟩, ⟨by (with_reducible repeat (first | apply Kd.R_alloc | apply Kd.R_drewN | apply Kd.R_drew)); exact HO_8.out⟩, ⟨by repeat (first | (with_reducible first | exact HB.out | apply below_alloc | apply pw_below_drewN | apply below_drew1) | exact HB.out)⟩⟩
                      case round =>
                        clear H'
                        try clear c1
                        try clear c2
                        try clear p2
                        try clear q2
                        try clear hx2
                        try clear qi2
                        try clear c4
                        try clear c5
                        try clear p6
                        try clear c10
                        try clear c11
                        try clear c12
                        try clear c14
                        try clear c15
                        try clear c17
                        try clear c18
                        try clear c19
                        try clear c20
                        try clear c21
                        try clear c22
                        try clear c23
                        try clear c24
                        try clear c25
                        try clear p26
                        try clear q26
                        try clear hx26
                        try clear p27
                        try clear q27
                        try clear hx27
                        try clear qi27
                        try clear c45
                        try clear c45b0
                        try clear c46
                        try clear c46b0
                        try clear c51
                        try clear c51b0
                        try clear c51b1
                        try clear c52
                        try clear c52b0
                        try clear c52b1
                        try clear hx261_0
                        try clear hx278_0
                        try clear hx279_0
                        try clear p2
                        try clear p26
                        try clear p261
                        try clear p27
                        try clear p278
                        try clear p279
                        try clear p6
                        try clear q2
                        try clear q26
                        try clear q261
                        try clear q27
                        try clear q278
                        try clear q279
                        obtain ⟨x13_4, rfl, HA, HK4, HO_7, HO_8, HB⟩ := hrel
                        cases gk with
                        | zero => exact absurd HA.out (by simp [correctorlaw8_BlockIndent.l1])
                        | succ k4 =>
                          have H := HA.out
                          clear HA
                          simp only [correctorlaw8_BlockIndent.l1] at H
                          by_cases c54 : x13_4 < (x7_1.length : Int)
                          · rw [if_pos c54] at H
                            have c54b0 : decide (x13_4 < (x7_1.length : Int)) = true := decide_eq_true c54
                            clear c54
                            by_cases c55 : 0 ≤ x13_4
                            · rw [if_pos c55] at H
                              have c55b0 : decide (0 ≤ x13_4) = true := decide_eq_true c55
                              clear c55
                              by_cases c56 : x13_4 < (l0.length : Int)
                              · rw [if_pos c56] at H
                                have c56b0 : decide (x13_4 < (l0.length : Int)) = true := decide_eq_true c56
                                clear c56
                                replace H := Option.bind_eq_some_iff.mp H
                                obtain ⟨t282, A570, H⟩ := H
                                replace H : (if t282 < x12_46 then (some true) else (correctorlaw8_BlockIndent.l1 k4 l0 x7_1 x8_1 (rdOf ByteArray.empty y274 t277) x12_46 (wrap64 (x13_4 + 1)))) = some r := H
                                have A57 := Aside0.mk A570
                                clear A570
                                by_cases c58 : t282 < x12_46
                                · rw [if_pos c58] at H
                                  have c58b0 : decide (t282 < x12_46) = true := decide_eq_true c58
                                  clear c58
                                  obtain rfl := Option.some.inj H
                                  obtain ⟨Ao59, co59, eo59⟩ := Kd.R_slice HO_7.out
                                  subst eo59
                                  have p281 : 0 ≤ (x13_4 : Int) := of_decide_eq_true (by first | (with_reducible assumption) | assumption)
                                  have q281 : x13_4 < (l0.length : Int) := of_decide_eq_true (by first | (with_reducible assumption) | assumption)
                                  obtain ⟨ad281, e281, hx281_0⟩ := Kd.at_int HR0.out x13_4 p281 q281
                                  cases e281
                                  replace hx281_0 := (HB.out.cell (World.block_lt_of_cell? w _ hx281_0)).trans hx281_0
                                  replace p281 := eq_true p281
                                  replace q281 := eq_true q281
                                  go_wp2_with (first | ((with_reducible refine gate_callee (f := 10) rfl ?_); refine goesL_ (some 78) rfl rfl Try.func10 (by kernel_rfl) rfl #[.int .i64 (rd l0 x13_4), .int .i64 5] rfl (by (try simp only [List.map_toArray, List.map_cons, List.map_nil]); first | done | rfl | (simp only [List.length_drop, List.length_take]; rfl) | (simp only [ByteArray.size_extract, Nat.min_self]; done) | (simp only [ByteArray.size_extract, Nat.min_self]; rfl)) ?_; (with_reducible refine (correctorlaw8_within.calls (rd l0 x13_4) 5 t282 _ A57.out).mono ?_); rintro e w' ⟨rfl, ⟨nd, rfl⟩⟩; refine ⟨_, rfl, ?_⟩))
                                  go_ret
                                  exact ⟨by first | rfl | (simp [errW_none, errW_some] <;> rfl) | (simp [*, errW_none, errW_some] <;> rfl), by repeat (first | (with_reducible first | exact HB.out | apply below_alloc | apply pw_below_drewN | apply below_drew1) | exact HB.out)⟩
                                · rw [if_neg c58] at H
                                  have c58b0 : decide (t282 < x12_46) = false := decide_eq_false c58
                                  clear c58
                                  have H' := Aside0.mk H
                                  clear H
                                  obtain ⟨Ao60, co60, eo60⟩ := Kd.R_slice HO_7.out
                                  subst eo60
                                  have p281 : 0 ≤ (x13_4 : Int) := of_decide_eq_true (by first | (with_reducible assumption) | assumption)
                                  have q281 : x13_4 < (l0.length : Int) := of_decide_eq_true (by first | (with_reducible assumption) | assumption)
                                  obtain ⟨ad281, e281, hx281_0⟩ := Kd.at_int HR0.out x13_4 p281 q281
                                  cases e281
                                  replace hx281_0 := (HB.out.cell (World.block_lt_of_cell? w _ hx281_0)).trans hx281_0
                                  replace p281 := eq_true p281
                                  replace q281 := eq_true q281
                                  go_wp2_with (first | ((with_reducible refine gate_callee (f := 10) rfl ?_); refine goesL_ (some 78) rfl rfl Try.func10 (by kernel_rfl) rfl #[.int .i64 (rd l0 x13_4), .int .i64 5] rfl (by (try simp only [List.map_toArray, List.map_cons, List.map_nil]); first | done | rfl | (simp only [List.length_drop, List.length_take]; rfl) | (simp only [ByteArray.size_extract, Nat.min_self]; done) | (simp only [ByteArray.size_extract, Nat.min_self]; rfl)) ?_; (with_reducible refine (correctorlaw8_within.calls (rd l0 x13_4) 5 t282 _ A57.out).mono ?_); rintro e w' ⟨rfl, ⟨nd, rfl⟩⟩; refine ⟨_, rfl, ?_⟩))
                                  go_roundg k4
                                  case measure => have := HK1.out; have := HJ7.out; have := HJ46.out; have := HK4.out; omega
                                  case rel => exact ⟨(wrap64 (x13_4 + 1)), (by first | rfl | (simp; done) | (simp [*]; done)), H', ⟨by have := HK1.out; have := HJ7.out; have := HJ46.out; have := HK4.out; omega⟩, ⟨by (with_reducible repeat (first | apply Kd.R_alloc | apply Kd.R_drewN | apply Kd.R_drew)); exact HO_7.out⟩, ⟨by (with_reducible repeat (first | apply Kd.R_alloc | apply Kd.R_drewN | apply Kd.R_drew)); exact HO_8.out⟩, ⟨by repeat (first | (with_reducible first | exact HB.out | apply below_alloc | apply pw_below_drewN | apply below_drew1) | exact HB.out)⟩⟩
                              · rw [if_neg c56] at H
                                exact absurd H (by simp)
                            · rw [if_neg c55] at H
                              exact absurd H (by simp)
                          · rw [if_neg c54] at H
                            have c54b0 : decide (x13_4 < (x7_1.length : Int)) = false := decide_eq_false c54
                            clear c54
                            replace H := Option.bind_eq_some_iff.mp H
                            obtain ⟨t283, A610, H⟩ := H
                            replace H : ((block_Text.f k4 (rdOf ByteArray.empty y274 t277) x8_1).bind fun t284 => (some (t283.toList == t284.toList))) = some r := H
                            have A61 := Aside0.mk A610
                            clear A610
                            replace H := Option.bind_eq_some_iff.mp H
                            obtain ⟨t284, A620, H⟩ := H
                            replace H : (some (t283.toList == t284.toList)) = some r := H
                            have A62 := Aside0.mk A620
                            clear A620
                            obtain rfl := Option.some.inj H
                            obtain ⟨Ao63, co63, eo63⟩ := Kd.R_slice HO_7.out
                            subst eo63
                            go_wp2_with (first | ((with_reducible refine gate_callee (f := 11) rfl ?_); refine goesL_ (some 83) rfl rfl Try.func11 (by kernel_rfl) rfl #[.string (rdOf ByteArray.empty y274 t277), .slice Ao63 x7_1.length co63] rfl (by (try simp only [List.map_toArray, List.map_cons, List.map_nil]); first | done | rfl | (simp only [List.length_drop, List.length_take]; rfl) | (simp only [ByteArray.size_extract, Nat.min_self]; done) | (simp only [ByteArray.size_extract, Nat.min_self]; rfl)) ?_; (with_reducible refine (block_Text.calls k4 (rdOf ByteArray.empty y274 t277) _ _ x7_1 t283 _ ?side1 ?side2 A61.out).mono ?_); (case side1 => repeat (first | exact (Kd.R_reads' HO_7.out).2.2 | (with_reducible refine Kd.C_alloc ?_ _) | (with_reducible refine Kd.C_drewN ?_ _) | (with_reducible refine Kd.C_drew ?_))); (case side2 => exact (Kd.R_reads' HO_7.out).2.1); rintro e w64 ⟨rfl, hb⟩; refine ⟨_, rfl, ?_⟩; have n0_ := Aside0.mk (Kd.R_below (by (with_reducible repeat (first | apply Kd.R_alloc | apply Kd.R_drewN | apply Kd.R_drew)); exact HO_7.out) hb); have n1_ := Aside0.mk (Kd.R_below (by (with_reducible repeat (first | apply Kd.R_alloc | apply Kd.R_drewN | apply Kd.R_drew)); exact HO_8.out) hb); have n2_ := Aside0.mk (below_step (by repeat (first | (with_reducible first | exact HB.out | apply below_alloc | apply pw_below_drewN | apply below_drew1) | exact HB.out)) hb); clear HO_7; clear HO_8; clear HB; have HO_7 := n0_; have HO_8 := n1_; have HB := n2_; clear n0_ n1_ n2_; (try clear hb); (try clear hb2); (try clear hk); (try clear hi); obtain ⟨Ao65, co65, eo65⟩ := Kd.R_slice HO_8.out; subst eo65) | ((with_reducible refine gate_callee (f := 11) rfl ?_); refine goesL_ (some 86) rfl rfl Try.func11 (by kernel_rfl) rfl #[.string (rdOf ByteArray.empty y274 t277), .slice Ao65 x8_1.length co65] rfl (by (try simp only [List.map_toArray, List.map_cons, List.map_nil]); first | done | rfl | (simp only [List.length_drop, List.length_take]; rfl) | (simp only [ByteArray.size_extract, Nat.min_self]; done) | (simp only [ByteArray.size_extract, Nat.min_self]; rfl)) ?_; (with_reducible refine (block_Text.calls k4 (rdOf ByteArray.empty y274 t277) _ _ x8_1 t284 _ ?side1 ?side2 A62.out).mono ?_); (case side1 => repeat (first | exact (Kd.R_reads' HO_8.out).2.2 | (with_reducible refine Kd.C_alloc ?_ _) | (with_reducible refine Kd.C_drewN ?_ _) | (with_reducible refine Kd.C_drew ?_))); (case side2 => exact (Kd.R_reads' HO_8.out).2.1); rintro e w66 ⟨rfl, hb⟩; refine ⟨_, rfl, ?_⟩; have n0_ := Aside0.mk (Kd.R_below (by (with_reducible repeat (first | apply Kd.R_alloc | apply Kd.R_drewN | apply Kd.R_drew)); exact HO_7.out) hb); have n1_ := Aside0.mk (Kd.R_below (by (with_reducible repeat (first | apply Kd.R_alloc | apply Kd.R_drewN | apply Kd.R_drew)); exact HO_8.out) hb); have n2_ := Aside0.mk (below_step (by repeat (first | (with_reducible first | exact HB.out | apply below_alloc | apply pw_below_drewN | apply below_drew1) | exact HB.out)) hb); clear HO_7; clear HO_8; clear HB; have HO_7 := n0_; have HO_8 := n1_; have HB := n2_; clear n0_ n1_ n2_; (try clear hb); (try clear hb2); (try clear hk); (try clear hi)))
                            go_ret
                            exact ⟨by first | rfl | (simp [errW_none, errW_some] <;> rfl) | (simp [*, errW_none, errW_some] <;> rfl), by repeat (first | (with_reducible first | exact HB.out | apply below_alloc | apply pw_below_drewN | apply below_drew1) | exact HB.out)⟩
                · rw [if_neg c46] at H
                  exact absurd H (by simp)
              · rw [if_neg c45] at H
                exact absurd H (by simp)
  · replace c5 := Bool.eq_false_iff.mpr c5
    subst c5
    have H1 : (some false) = some r := by rw [if_neg (show ¬ (false = true) by decide)] at H; exact H
    clear H
    have H := H1
    clear H1
    obtain rfl := Option.some.inj H
    go_enter Try.func7, Try.ntmps7
    go_wp2_with (first | ((with_reducible refine gate_callee (f := 8) rfl ?_); refine goesL_ (some 14) rfl rfl Try.func8 (by kernel_rfl) rfl #[] rfl (by (try simp only [List.map_toArray, List.map_cons, List.map_nil]); first | done | rfl | (simp only [List.length_drop, List.length_take]; rfl) | (simp only [ByteArray.size_extract, Nat.min_self]; done) | (simp only [ByteArray.size_extract, Nat.min_self]; rfl)) ?_; (with_reducible refine (correctorlaw8_known.calls k  false _ A4.out).mono ?_); rintro e w67 ⟨rfl, hb⟩; refine ⟨_, rfl, ?_⟩; have n0_ := Aside0.mk (below_step (by repeat (first | (with_reducible first | exact HB.out | apply below_alloc | apply pw_below_drewN | apply below_drew1) | exact HB.out)) hb); clear HB; have HB := n0_; clear n0_; (try clear hb); (try clear hb2); (try clear hk); (try clear hi)))
    go_ret
    exact ⟨by first | rfl | (simp [errW_none, errW_some] <;> rfl) | (simp [*, errW_none, errW_some] <;> rfl), by repeat (first | (with_reducible first | exact HB.out | apply below_alloc | apply pw_below_drewN | apply below_drew1) | exact HB.out)⟩

/-- THE ONE PURE STATEMENT of correctorlaw8_BlockIndent: yours. -/
def correctorlaw8_BlockIndent.Pure : Prop := ∀ (l0 : List Int) (a1 : Int) (a2 : Int), l0.length ≤ maxLen → l0.length * 8 ≤ 140737488351232 → (∀ x ∈ l0, (Lit.int .i64 x).wf = true) → (Lit.int .i64 a1).wf = true → (Lit.int .i64 a2).wf = true → ∃ k, correctorlaw8_BlockIndent.f k l0 a1 a2 = some true
theorem correctorlaw8_BlockIndent.walk (P : correctorlaw8_BlockIndent.Pure) (a0 : Option Addr) (len0 cap0 : Nat) (z0 : List Int) (a1 : Int) (a2 : Int) (w : World) (w0 : (a0 = none ∧ len0 = 0 ∧ cap0 = 0 ∧ z0 = []) ∨ ∃ x, a0 = some x ∧ len0 ≤ cap0 ∧ cap0 ≤ maxLen ∧ z0.length = cap0 ∧ (∀ i, i < z0.length → w.cell? (x.add i) = some (.int .i64 (z0.getD i 0))) ∧ ∀ n ∈ z0, (Lit.int .i64 n).wf = true) (y0 : len0 * 8 ≤ 140737488351232) (w1 : (Lit.int .i64 a1).wf = true) (w2 : (Lit.int .i64 a2).wf = true) :
    Calls Try.prog 7 #[.slice a0 len0 cap0, .int .i64 a1, .int .i64 a2] w fun e w' => e = .returned (.bool true) ∧ Below w.heap.size w w' := by
  obtain ⟨l0, rfl, hr0, hm0, hw0, hc0⟩ := ReadsInt.ofRowC w0
  obtain ⟨k, h⟩ := P l0 a1 a2 hm0 y0 hw0 w1 w2
  refine (correctorlaw8_BlockIndent.calls k _ _ l0 a1 a2 true w (Kd.C_of_reads (d := (0 : Int)) (h1 := fun _ => rfl) hr0) hc0 h).mono ?_
  rintro e w' ⟨rfl, hd⟩
  exact ⟨rfl, hd⟩

end Go.Proofs.Ytpinegfbcbfnoaa.Q
