/- Proved here, in the forms of the print's contracts: what each Go function answers, and the rows of the laws over it; by a program and by hand. -/
import Derived.Test.YthoogadfhopkfaaQ0
import Derived.Test.YthoogadfhopkfaaQEq0
import Derived.Test.YthoogadfhopkfaaQscan
import Derived.Lib.SlBytesConst
namespace Go.Proofs.Ythoogadfhopkfaa.Q
open Go.RowKit Go.Proofs.YthoogadfhopkfaaW.PrintWords Go.Proofs.YthoogadfhopkfaaW.PrintLast Go.Proofs.YthoogadfhopkfaaW.PrintMore
attribute [local go_sem] max2_int min2_int max_two min_two max_three min_three max_four min_four   -- for this text's walks alone
set_option linter.unusedVariables false
set_option linter.unusedSimpArgs false

attribute [local go_sem high] eqA32
/-! ### correctorlaw6_known: function 10 (by hand) -/
-- WANTS Derived.Lib.SlBytesConst
def correctorlaw6_known.f : Option Bool := some true
theorem correctorlaw6_known.lit (w : World) : Kd.C (Kd.int .u8) (w.alloc (.cells #[.int .u8 45, .int .u8 32, .int .u8 97, .int .u8 58, .int .u8 32, .int .u8 49] 5 (6, 7))) (some ⟨w.heap.size, 0, none⟩) 6 ([45, 32, 97, 58, 32, 49] : List Int) := by
  refine Kd.C_of_reads (d := (0 : Int)) ⟨rfl, by decide, fun _ => ⟨⟨w.heap.size, 0, none⟩, rfl, fun j hj => ?_⟩⟩
  have hb : (w.alloc (.cells #[.int .u8 45, .int .u8 32, .int .u8 97, .int .u8 58, .int .u8 32, .int .u8 49] 5 (6, 7))).heap[w.heap.size]? = some (.cells #[.int .u8 45, .int .u8 32, .int .u8 97, .int .u8 58, .int .u8 32, .int .u8 49] 5 (6, 7)) := heap_alloc_new w _
  have hc : ∀ k : Nat, (w.alloc (.cells #[.int .u8 45, .int .u8 32, .int .u8 97, .int .u8 58, .int .u8 32, .int .u8 49] 5 (6, 7))).cell? ⟨w.heap.size, k, none⟩ = (#[.int .u8 45, .int .u8 32, .int .u8 97, .int .u8 58, .int .u8 32, .int .u8 49] : Array Value)[k]? := fun k => by
    unfold World.cell?
    rw [hb]
    rfl
  have hj2 : j < 6 := hj
  rcases (by omega : j = 0 ∨ j = 1 ∨ j = 2 ∨ j = 3 ∨ j = 4 ∨ j = 5) with rfl | rfl | rfl | rfl | rfl | rfl
  · exact hc 0
  · exact hc 1
  · exact hc 2
  · exact hc 3
  · exact hc 4
  · exact hc 5
theorem correctorlaw6_known.toks : scan_Tokens.f [45, 32, 97, 58, 32, 49] = some [⟨5, 0, 1⟩, ⟨3, 1, 2⟩, ⟨15, 2, 3⟩, ⟨6, 3, 4⟩, ⟨3, 4, 5⟩, ⟨15, 5, 6⟩] := by kernel_rfl
theorem correctorlaw6_known.calls (r : Bool) (w : World) (h : correctorlaw6_known.f = some r) :
    Calls Try.prog 10 #[] w fun e w' => e = .returned (.bool r) ∧ Below w.heap.size w w' := by
  obtain rfl := Option.some.inj h
  have X27 := Try.underlying27
  have h23 := Try.underlying23
  have h5 := Try.underlying5
  obtain ⟨L, hL⟩ : ∃ L : List S32, L = [⟨5, 0, 1⟩, ⟨3, 1, 2⟩, ⟨15, 2, 3⟩, ⟨6, 3, 4⟩, ⟨3, 4, 5⟩, ⟨15, 5, 6⟩] := ⟨_, rfl⟩
  have HT := Aside0.mk (correctorlaw6_known.toks.trans (congrArg some hL.symm))
  have l6 : L.length = 6 := by rw [hL]; rfl
  have f0 : ((rd_T32 L 0).f0 == 5) = true := by rw [hL]; rfl
  have f3 : ((rd_T32 L 3).f0 == 6) = true := by rw [hL]; rfl
  have f5 : ((rd_T32 L 5).f0 == 15) = true := by rw [hL]; rfl
  have b6 : ((L.length : Int) == 6) = true := by rw [l6]; rfl
  have d0 : decide (0 < (L.length : Int)) = true := decide_eq_true (by omega)
  have d3 : decide (3 < (L.length : Int)) = true := decide_eq_true (by omega)
  have d5 : decide (5 < (L.length : Int)) = true := decide_eq_true (by omega)
  have e0 : decide (0 < L.length) = true := decide_eq_true (by omega)
  have e3 : decide (3 < L.length) = true := decide_eq_true (by omega)
  have e5 : decide (5 < L.length) = true := decide_eq_true (by omega)
  have t0 : (0 < (L.length : Int)) = True := eq_true (by omega)
  have t3 : (3 < (L.length : Int)) = True := eq_true (by omega)
  have t5 : (5 < (L.length : Int)) = True := eq_true (by omega)
  have i0 : (0 < L.length) = True := eq_true (by omega)
  have i3 : (3 < L.length) = True := eq_true (by omega)
  have i5 : (5 < L.length) = True := eq_true (by omega)
  have p00 : (0 ≤ (0 : Int)) = True := eq_true (by omega)
  have p03 : (0 ≤ (3 : Int)) = True := eq_true (by omega)
  have p05 : (0 ≤ (5 : Int)) = True := eq_true (by omega)
  have HL6 := Aside0.mk l6
  clear hL l6
  have hcv : ∀ (w : World) (C : Array Value) (n c : Nat), (convert 23 23 (.slice (some ⟨w.heap.size, 0, none⟩) n c)).run Try.prog (w.alloc (.cells C 5)) = .ok (.slice (some ⟨w.heap.size, 0, none⟩) n c) (w.alloc (.cells C 5 (C.size, C.size + 1))) := fun w C n c => Go.Lib.run_convert_bytes_const w _ _ C n c h23 h5
  go_enter Try.func10, Try.ntmps10
  go_wp2_with (first | (go_at_call 13; (refine (scan_Tokens.calls (some ⟨w.heap.size, 0, none⟩) 6 [45, 32, 97, 58, 32, 49] _ _ (correctorlaw6_known.lit w) (by decide) HT.out).mono ?_); rintro e w7 ⟨v7, rfl, hr7, hb7⟩; have R7 := Aside0.mk hr7; have B7 := Aside0.mk hb7; clear hr7 hb7; obtain ⟨A7, c7, e7⟩ := Kd.R_slice R7.out; subst e7; (obtain ⟨ad, ea, x0, x1, x2⟩ := at_T32 (Kd.R_reads' R7.out).2.2 0 (by decide) (by rw [HL6.out]; decide)); (obtain ⟨ad3, ea3, y0, y1, y2⟩ := at_T32 (Kd.R_reads' R7.out).2.2 3 (by decide) (by rw [HL6.out]; decide)); (obtain ⟨ad5, ea5, z0, z1, z2⟩ := at_T32 (Kd.R_reads' R7.out).2.2 5 (by decide) (by rw [HL6.out]; decide)); (cases ea); (cases ea3); (cases ea5); (rw [show (0 : Int).toNat = 0 from rfl, show 0 * 3 = 0 from rfl, Addr.add_zero'] at x0); (rw [show (0 : Int).toNat = 0 from rfl, show 0 * 3 = 0 from rfl, Addr.add_zero'] at x1); (rw [show (0 : Int).toNat = 0 from rfl, show 0 * 3 = 0 from rfl, Addr.add_zero'] at x2); (simp only [show (3 : Int).toNat = 3 from rfl, Nat.reduceMul, Nat.reduceEqDiff, Go.Addr.add, ↓reduceIte] at y0); (simp only [show (3 : Int).toNat = 3 from rfl, Nat.reduceMul, Nat.reduceEqDiff, Go.Addr.add, ↓reduceIte] at y1); (simp only [show (3 : Int).toNat = 3 from rfl, Nat.reduceMul, Nat.reduceEqDiff, Go.Addr.add, ↓reduceIte] at y2); (simp only [show (5 : Int).toNat = 5 from rfl, Nat.reduceMul, Nat.reduceEqDiff, Go.Addr.add, ↓reduceIte] at z0); (simp only [show (5 : Int).toNat = 5 from rfl, Nat.reduceMul, Nat.reduceEqDiff, Go.Addr.add, ↓reduceIte] at z1); (simp only [show (5 : Int).toNat = 5 from rfl, Nat.reduceMul, Nat.reduceEqDiff, Go.Addr.add, ↓reduceIte] at z2)))
  go_ret
  exact ⟨rfl, below_step (below_alloc (Below.refl _ _) _) B7.out⟩

/-! ### correctorlaw6_within: function 16 -/
def correctorlaw6_within.f (a0 : Int) (a1 : Int) : Option (Int) := if a1 = 0 then (none) else (if (Int.tmod a0 a1) < 0 then (some (wrap64 ((Int.tmod a0 a1) + a1))) else (some (Int.tmod a0 a1)))
set_option maxHeartbeats 8000000 in
set_option maxRecDepth 100000 in
theorem correctorlaw6_within.calls (a0 : Int) (a1 : Int) (r : Int) (w : World) (h : correctorlaw6_within.f a0 a1 = some r) :
    Calls Try.prog 16 #[.int .i64 a0, .int .i64 a1] w fun e w' => e = .returned (.int .i64 r) ∧ Drawn0 w w' := by
  have H : (if a1 = 0 then (none) else (if (Int.tmod a0 a1) < 0 then (some (wrap64 ((Int.tmod a0 a1) + a1))) else (some (Int.tmod a0 a1)))) = some r := h
  clear h
  by_cases c3 : a1 = 0
  · rw [if_pos c3] at H
    exact absurd H (by simp)
  · rw [if_neg c3] at H
    have c3b0 : (a1 == 0) = false := beq_eq_false_iff_ne.mpr c3
    have c3b1 : (a1 != 0) = true := bne_iff_ne.mpr c3
    by_cases c4 : (Int.tmod a0 a1) < 0
    · rw [if_pos c4] at H
      have c4b0 : decide ((Int.tmod a0 a1) < 0) = true := decide_eq_true c4
      clear c4
      obtain rfl := Option.some.inj H
      go_enter Try.func16, Try.ntmps16
      go_wp2
      go_ret
      exact ⟨by first | rfl | (simp; done) | (simp [*]; done), by repeat (first | exact Drawn0.refl _ | apply Drawn0.step)⟩
    · rw [if_neg c4] at H
      have c4b0 : decide ((Int.tmod a0 a1) < 0) = false := decide_eq_false c4
      clear c4
      obtain rfl := Option.some.inj H
      go_enter Try.func16, Try.ntmps16
      go_wp2
      go_ret
      exact ⟨by first | rfl | (simp; done) | (simp [*]; done), by repeat (first | exact Drawn0.refl _ | apply Drawn0.step)⟩

/-! ### correctorlaw6_Piece: function 17 -/
def correctorlaw6_Piece.f (a0 : Int) : Option (ByteArray) := (some (([(⟨#[97]⟩ : ByteArray), (⟨#[98, 58, 32]⟩ : ByteArray), (⟨#[45, 32]⟩ : ByteArray), (⟨#[10]⟩ : ByteArray), (⟨#[10]⟩ : ByteArray), (⟨#[10, 32, 32]⟩ : ByteArray), (⟨#[10, 32, 32, 32, 32]⟩ : ByteArray), (⟨#[107, 101, 121, 58, 32]⟩ : ByteArray), (⟨#[91]⟩ : ByteArray), (⟨#[93]⟩ : ByteArray), (⟨#[123]⟩ : ByteArray), (⟨#[125]⟩ : ByteArray), (⟨#[44, 32]⟩ : ByteArray), (⟨#[58, 32]⟩ : ByteArray), (⟨#[39, 105, 116, 39, 39, 115, 39]⟩ : ByteArray), (⟨#[34, 120, 92, 110, 34]⟩ : ByteArray), (⟨#[35, 32, 110, 111, 116, 101, 10]⟩ : ByteArray), (⟨#[38, 110, 32]⟩ : ByteArray), (⟨#[42, 110]⟩ : ByteArray), (⟨#[33, 33, 105, 110, 116, 32]⟩ : ByteArray), (⟨#[124, 10]⟩ : ByteArray), (⟨#[62, 45, 10]⟩ : ByteArray), (⟨#[45, 45, 45]⟩ : ByteArray), (⟨#[46, 46, 46]⟩ : ByteArray), (⟨#[9]⟩ : ByteArray), (⟨#[13, 10]⟩ : ByteArray), (⟨#[32]⟩ : ByteArray), (⟨#[49]⟩ : ByteArray), (⟨#[126]⟩ : ByteArray), (⟨#[39, 111, 112, 101, 110]⟩ : ByteArray), (⟨#[34, 92, 113, 34]⟩ : ByteArray), (⟨#[45]⟩ : ByteArray), (⟨#[58]⟩ : ByteArray), (⟨#[116, 101, 120, 116, 32, 111, 102, 32, 119, 111, 114, 100, 115]⟩ : ByteArray), (⟨#[10, 45, 32]⟩ : ByteArray), (⟨#[10, 107, 58, 32]⟩ : ByteArray), (⟨#[32, 32]⟩ : ByteArray), (⟨#[35, 32, 111, 102, 102]⟩ : ByteArray), (⟨#[44]⟩ : ByteArray), (⟨#[124, 43]⟩ : ByteArray), (⟨#[10, 10]⟩ : ByteArray)] : List ByteArray) : List ByteArray)).bind fun y102 => ((correctorlaw6_within.f a0 (y102.length : Int)).bind fun t105 => (if 0 ≤ t105 then (if t105 < (y102.length : Int) then (some (rdOf ByteArray.empty y102 t105)) else (none)) else (none)))
set_option maxHeartbeats 8000000 in
set_option maxRecDepth 100000 in
theorem correctorlaw6_Piece.calls (a0 : Int) (r : ByteArray) (w : World) (h : correctorlaw6_Piece.f a0 = some r) :
    Calls Try.prog 17 #[.int .i64 a0] w fun e w' => e = .returned (.string r) ∧ Below w.heap.size w w' := by
  have HB := Aside0.mk (Below.refl w.heap.size w)
  have H : ((some (([(⟨#[97]⟩ : ByteArray), (⟨#[98, 58, 32]⟩ : ByteArray), (⟨#[45, 32]⟩ : ByteArray), (⟨#[10]⟩ : ByteArray), (⟨#[10]⟩ : ByteArray), (⟨#[10, 32, 32]⟩ : ByteArray), (⟨#[10, 32, 32, 32, 32]⟩ : ByteArray), (⟨#[107, 101, 121, 58, 32]⟩ : ByteArray), (⟨#[91]⟩ : ByteArray), (⟨#[93]⟩ : ByteArray), (⟨#[123]⟩ : ByteArray), (⟨#[125]⟩ : ByteArray), (⟨#[44, 32]⟩ : ByteArray), (⟨#[58, 32]⟩ : ByteArray), (⟨#[39, 105, 116, 39, 39, 115, 39]⟩ : ByteArray), (⟨#[34, 120, 92, 110, 34]⟩ : ByteArray), (⟨#[35, 32, 110, 111, 116, 101, 10]⟩ : ByteArray), (⟨#[38, 110, 32]⟩ : ByteArray), (⟨#[42, 110]⟩ : ByteArray), (⟨#[33, 33, 105, 110, 116, 32]⟩ : ByteArray), (⟨#[124, 10]⟩ : ByteArray), (⟨#[62, 45, 10]⟩ : ByteArray), (⟨#[45, 45, 45]⟩ : ByteArray), (⟨#[46, 46, 46]⟩ : ByteArray), (⟨#[9]⟩ : ByteArray), (⟨#[13, 10]⟩ : ByteArray), (⟨#[32]⟩ : ByteArray), (⟨#[49]⟩ : ByteArray), (⟨#[126]⟩ : ByteArray), (⟨#[39, 111, 112, 101, 110]⟩ : ByteArray), (⟨#[34, 92, 113, 34]⟩ : ByteArray), (⟨#[45]⟩ : ByteArray), (⟨#[58]⟩ : ByteArray), (⟨#[116, 101, 120, 116, 32, 111, 102, 32, 119, 111, 114, 100, 115]⟩ : ByteArray), (⟨#[10, 45, 32]⟩ : ByteArray), (⟨#[10, 107, 58, 32]⟩ : ByteArray), (⟨#[32, 32]⟩ : ByteArray), (⟨#[35, 32, 111, 102, 102]⟩ : ByteArray), (⟨#[44]⟩ : ByteArray), (⟨#[124, 43]⟩ : ByteArray), (⟨#[10, 10]⟩ : ByteArray)] : List ByteArray) : List ByteArray)).bind fun y102 => ((correctorlaw6_within.f a0 (y102.length : Int)).bind fun t105 => (if 0 ≤ t105 then (if t105 < (y102.length : Int) then (some (rdOf ByteArray.empty y102 t105)) else (none)) else (none)))) = some r := h
  clear h
  obtain ⟨y102, hy102⟩ : ∃ y_ : List ByteArray, y_ = (([(⟨#[97]⟩ : ByteArray), (⟨#[98, 58, 32]⟩ : ByteArray), (⟨#[45, 32]⟩ : ByteArray), (⟨#[10]⟩ : ByteArray), (⟨#[10]⟩ : ByteArray), (⟨#[10, 32, 32]⟩ : ByteArray), (⟨#[10, 32, 32, 32, 32]⟩ : ByteArray), (⟨#[107, 101, 121, 58, 32]⟩ : ByteArray), (⟨#[91]⟩ : ByteArray), (⟨#[93]⟩ : ByteArray), (⟨#[123]⟩ : ByteArray), (⟨#[125]⟩ : ByteArray), (⟨#[44, 32]⟩ : ByteArray), (⟨#[58, 32]⟩ : ByteArray), (⟨#[39, 105, 116, 39, 39, 115, 39]⟩ : ByteArray), (⟨#[34, 120, 92, 110, 34]⟩ : ByteArray), (⟨#[35, 32, 110, 111, 116, 101, 10]⟩ : ByteArray), (⟨#[38, 110, 32]⟩ : ByteArray), (⟨#[42, 110]⟩ : ByteArray), (⟨#[33, 33, 105, 110, 116, 32]⟩ : ByteArray), (⟨#[124, 10]⟩ : ByteArray), (⟨#[62, 45, 10]⟩ : ByteArray), (⟨#[45, 45, 45]⟩ : ByteArray), (⟨#[46, 46, 46]⟩ : ByteArray), (⟨#[9]⟩ : ByteArray), (⟨#[13, 10]⟩ : ByteArray), (⟨#[32]⟩ : ByteArray), (⟨#[49]⟩ : ByteArray), (⟨#[126]⟩ : ByteArray), (⟨#[39, 111, 112, 101, 110]⟩ : ByteArray), (⟨#[34, 92, 113, 34]⟩ : ByteArray), (⟨#[45]⟩ : ByteArray), (⟨#[58]⟩ : ByteArray), (⟨#[116, 101, 120, 116, 32, 111, 102, 32, 119, 111, 114, 100, 115]⟩ : ByteArray), (⟨#[10, 45, 32]⟩ : ByteArray), (⟨#[10, 107, 58, 32]⟩ : ByteArray), (⟨#[32, 32]⟩ : ByteArray), (⟨#[35, 32, 111, 102, 102]⟩ : ByteArray), (⟨#[44]⟩ : ByteArray), (⟨#[124, 43]⟩ : ByteArray), (⟨#[10, 10]⟩ : ByteArray)] : List ByteArray)) := ⟨_, rfl⟩
  replace H : ((correctorlaw6_within.f a0 (y102.length : Int)).bind fun t105 => (if 0 ≤ t105 then (if t105 < (y102.length : Int) then (some (rdOf ByteArray.empty y102 t105)) else (none)) else (none))) = some r := by first | (rw [hy102]; with_reducible exact H) | (have H2_ := (Option.bind_some _ _).symm.trans H; rw [hy102]; with_reducible exact H2_) | (have H2_ := (Option.bind_some _ _).symm.trans H; with_reducible exact H2_) | with_reducible exact H | (rw [hy102]; exact H) | exact H
  have Ny102 := Aside0.mk hy102
  clear hy102
  replace H := Option.bind_eq_some_iff.mp H
  obtain ⟨t105, A20, H⟩ := H
  replace H : (if 0 ≤ t105 then (if t105 < (y102.length : Int) then (some (rdOf ByteArray.empty y102 t105)) else (none)) else (none)) = some r := H
  have A2 := Aside0.mk A20
  clear A20
  by_cases c3 : 0 ≤ t105
  · rw [if_pos c3] at H
    have c3b0 : decide (0 ≤ t105) = true := decide_eq_true c3
    clear c3
    by_cases c4 : t105 < (y102.length : Int)
    · rw [if_pos c4] at H
      have c4b0 : decide (t105 < (y102.length : Int)) = true := decide_eq_true c4
      clear c4
      obtain rfl := Option.some.inj H
      go_enter Try.func17, Try.ntmps17
      go_wp2_with (first | ((with_reducible refine gate_dst (N := 4) rfl ?_); refine Kd.R_lit Kd.string _ 9 ?hg (N := 4) ?hd (xs := ([(⟨#[97]⟩ : ByteArray), (⟨#[98, 58, 32]⟩ : ByteArray), (⟨#[45, 32]⟩ : ByteArray), (⟨#[10]⟩ : ByteArray), (⟨#[10]⟩ : ByteArray), (⟨#[10, 32, 32]⟩ : ByteArray), (⟨#[10, 32, 32, 32, 32]⟩ : ByteArray), (⟨#[107, 101, 121, 58, 32]⟩ : ByteArray), (⟨#[91]⟩ : ByteArray), (⟨#[93]⟩ : ByteArray), (⟨#[123]⟩ : ByteArray), (⟨#[125]⟩ : ByteArray), (⟨#[44, 32]⟩ : ByteArray), (⟨#[58, 32]⟩ : ByteArray), (⟨#[39, 105, 116, 39, 39, 115, 39]⟩ : ByteArray), (⟨#[34, 120, 92, 110, 34]⟩ : ByteArray), (⟨#[35, 32, 110, 111, 116, 101, 10]⟩ : ByteArray), (⟨#[38, 110, 32]⟩ : ByteArray), (⟨#[42, 110]⟩ : ByteArray), (⟨#[33, 33, 105, 110, 116, 32]⟩ : ByteArray), (⟨#[124, 10]⟩ : ByteArray), (⟨#[62, 45, 10]⟩ : ByteArray), (⟨#[45, 45, 45]⟩ : ByteArray), (⟨#[46, 46, 46]⟩ : ByteArray), (⟨#[9]⟩ : ByteArray), (⟨#[13, 10]⟩ : ByteArray), (⟨#[32]⟩ : ByteArray), (⟨#[49]⟩ : ByteArray), (⟨#[126]⟩ : ByteArray), (⟨#[39, 111, 112, 101, 110]⟩ : ByteArray), (⟨#[34, 92, 113, 34]⟩ : ByteArray), (⟨#[45]⟩ : ByteArray), (⟨#[58]⟩ : ByteArray), (⟨#[116, 101, 120, 116, 32, 111, 102, 32, 119, 111, 114, 100, 115]⟩ : ByteArray), (⟨#[10, 45, 32]⟩ : ByteArray), (⟨#[10, 107, 58, 32]⟩ : ByteArray), (⟨#[32, 32]⟩ : ByteArray), (⟨#[35, 32, 111, 102, 102]⟩ : ByteArray), (⟨#[44]⟩ : ByteArray), (⟨#[124, 43]⟩ : ByteArray), (⟨#[10, 10]⟩ : ByteArray)] : List ByteArray)) (inner := [.string (⟨#[97]⟩ : ByteArray), .string (⟨#[98, 58, 32]⟩ : ByteArray), .string (⟨#[45, 32]⟩ : ByteArray), .string (⟨#[10]⟩ : ByteArray), .string (⟨#[10]⟩ : ByteArray), .string (⟨#[10, 32, 32]⟩ : ByteArray), .string (⟨#[10, 32, 32, 32, 32]⟩ : ByteArray), .string (⟨#[107, 101, 121, 58, 32]⟩ : ByteArray), .string (⟨#[91]⟩ : ByteArray), .string (⟨#[93]⟩ : ByteArray), .string (⟨#[123]⟩ : ByteArray), .string (⟨#[125]⟩ : ByteArray), .string (⟨#[44, 32]⟩ : ByteArray), .string (⟨#[58, 32]⟩ : ByteArray), .string (⟨#[39, 105, 116, 39, 39, 115, 39]⟩ : ByteArray), .string (⟨#[34, 120, 92, 110, 34]⟩ : ByteArray), .string (⟨#[35, 32, 110, 111, 116, 101, 10]⟩ : ByteArray), .string (⟨#[38, 110, 32]⟩ : ByteArray), .string (⟨#[42, 110]⟩ : ByteArray), .string (⟨#[33, 33, 105, 110, 116, 32]⟩ : ByteArray), .string (⟨#[124, 10]⟩ : ByteArray), .string (⟨#[62, 45, 10]⟩ : ByteArray), .string (⟨#[45, 45, 45]⟩ : ByteArray), .string (⟨#[46, 46, 46]⟩ : ByteArray), .string (⟨#[9]⟩ : ByteArray), .string (⟨#[13, 10]⟩ : ByteArray), .string (⟨#[32]⟩ : ByteArray), .string (⟨#[49]⟩ : ByteArray), .string (⟨#[126]⟩ : ByteArray), .string (⟨#[39, 111, 112, 101, 110]⟩ : ByteArray), .string (⟨#[34, 92, 113, 34]⟩ : ByteArray), .string (⟨#[45]⟩ : ByteArray), .string (⟨#[58]⟩ : ByteArray), .string (⟨#[116, 101, 120, 116, 32, 111, 102, 32, 119, 111, 114, 100, 115]⟩ : ByteArray), .string (⟨#[10, 45, 32]⟩ : ByteArray), .string (⟨#[10, 107, 58, 32]⟩ : ByteArray), .string (⟨#[32, 32]⟩ : ByteArray), .string (⟨#[35, 32, 111, 102, 102]⟩ : ByteArray), .string (⟨#[44]⟩ : ByteArray), .string (⟨#[124, 43]⟩ : ByteArray), .string (⟨#[10, 10]⟩ : ByteArray)]) (ok := fun _ => True) (okp := fun _ => True) ?hr ?hp (fun _ hk => hk) trivial (Below.refl _ _) (Nat.le_refl _) (by simp) ?_; (case hd => rfl); (case hg => rfl); (case hr => first | (go_simp; done) | (go_simp; rfl)); (case hp => exact (Reps.one (show Kd.M Kd.string _ _ _ (⟨#[97]⟩ : ByteArray) [.string (⟨#[97]⟩ : ByteArray)] from rfl) (Reps.one (show Kd.M Kd.string _ _ _ (⟨#[98, 58, 32]⟩ : ByteArray) [.string (⟨#[98, 58, 32]⟩ : ByteArray)] from rfl) (Reps.one (show Kd.M Kd.string _ _ _ (⟨#[45, 32]⟩ : ByteArray) [.string (⟨#[45, 32]⟩ : ByteArray)] from rfl) (Reps.one (show Kd.M Kd.string _ _ _ (⟨#[10]⟩ : ByteArray) [.string (⟨#[10]⟩ : ByteArray)] from rfl) (Reps.one (show Kd.M Kd.string _ _ _ (⟨#[10]⟩ : ByteArray) [.string (⟨#[10]⟩ : ByteArray)] from rfl) (Reps.one (show Kd.M Kd.string _ _ _ (⟨#[10, 32, 32]⟩ : ByteArray) [.string (⟨#[10, 32, 32]⟩ : ByteArray)] from rfl) (Reps.one (show Kd.M Kd.string _ _ _ (⟨#[10, 32, 32, 32, 32]⟩ : ByteArray) [.string (⟨#[10, 32, 32, 32, 32]⟩ : ByteArray)] from rfl) (Reps.one (show Kd.M Kd.string _ _ _ (⟨#[107, 101, 121, 58, 32]⟩ : ByteArray) [.string (⟨#[107, 101, 121, 58, 32]⟩ : ByteArray)] from rfl) (Reps.one (show Kd.M Kd.string _ _ _ (⟨#[91]⟩ : ByteArray) [.string (⟨#[91]⟩ : ByteArray)] from rfl) (Reps.one (show Kd.M Kd.string _ _ _ (⟨#[93]⟩ : ByteArray) [.string (⟨#[93]⟩ : ByteArray)] from rfl) (Reps.one (show Kd.M Kd.string _ _ _ (⟨#[123]⟩ : ByteArray) [.string (⟨#[123]⟩ : ByteArray)] from rfl) (Reps.one (show Kd.M Kd.string _ _ _ (⟨#[125]⟩ : ByteArray) [.string (⟨#[125]⟩ : ByteArray)] from rfl) (Reps.one (show Kd.M Kd.string _ _ _ (⟨#[44, 32]⟩ : ByteArray) [.string (⟨#[44, 32]⟩ : ByteArray)] from rfl) (Reps.one (show Kd.M Kd.string _ _ _ (⟨#[58, 32]⟩ : ByteArray) [.string (⟨#[58, 32]⟩ : ByteArray)] from rfl) (Reps.one (show Kd.M Kd.string _ _ _ (⟨#[39, 105, 116, 39, 39, 115, 39]⟩ : ByteArray) [.string (⟨#[39, 105, 116, 39, 39, 115, 39]⟩ : ByteArray)] from rfl) (Reps.one (show Kd.M Kd.string _ _ _ (⟨#[34, 120, 92, 110, 34]⟩ : ByteArray) [.string (⟨#[34, 120, 92, 110, 34]⟩ : ByteArray)] from rfl) (Reps.one (show Kd.M Kd.string _ _ _ (⟨#[35, 32, 110, 111, 116, 101, 10]⟩ : ByteArray) [.string (⟨#[35, 32, 110, 111, 116, 101, 10]⟩ : ByteArray)] from rfl) (Reps.one (show Kd.M Kd.string _ _ _ (⟨#[38, 110, 32]⟩ : ByteArray) [.string (⟨#[38, 110, 32]⟩ : ByteArray)] from rfl) (Reps.one (show Kd.M Kd.string _ _ _ (⟨#[42, 110]⟩ : ByteArray) [.string (⟨#[42, 110]⟩ : ByteArray)] from rfl) (Reps.one (show Kd.M Kd.string _ _ _ (⟨#[33, 33, 105, 110, 116, 32]⟩ : ByteArray) [.string (⟨#[33, 33, 105, 110, 116, 32]⟩ : ByteArray)] from rfl) (Reps.one (show Kd.M Kd.string _ _ _ (⟨#[124, 10]⟩ : ByteArray) [.string (⟨#[124, 10]⟩ : ByteArray)] from rfl) (Reps.one (show Kd.M Kd.string _ _ _ (⟨#[62, 45, 10]⟩ : ByteArray) [.string (⟨#[62, 45, 10]⟩ : ByteArray)] from rfl) (Reps.one (show Kd.M Kd.string _ _ _ (⟨#[45, 45, 45]⟩ : ByteArray) [.string (⟨#[45, 45, 45]⟩ : ByteArray)] from rfl) (Reps.one (show Kd.M Kd.string _ _ _ (⟨#[46, 46, 46]⟩ : ByteArray) [.string (⟨#[46, 46, 46]⟩ : ByteArray)] from rfl) (Reps.one (show Kd.M Kd.string _ _ _ (⟨#[9]⟩ : ByteArray) [.string (⟨#[9]⟩ : ByteArray)] from rfl) (Reps.one (show Kd.M Kd.string _ _ _ (⟨#[13, 10]⟩ : ByteArray) [.string (⟨#[13, 10]⟩ : ByteArray)] from rfl) (Reps.one (show Kd.M Kd.string _ _ _ (⟨#[32]⟩ : ByteArray) [.string (⟨#[32]⟩ : ByteArray)] from rfl) (Reps.one (show Kd.M Kd.string _ _ _ (⟨#[49]⟩ : ByteArray) [.string (⟨#[49]⟩ : ByteArray)] from rfl) (Reps.one (show Kd.M Kd.string _ _ _ (⟨#[126]⟩ : ByteArray) [.string (⟨#[126]⟩ : ByteArray)] from rfl) (Reps.one (show Kd.M Kd.string _ _ _ (⟨#[39, 111, 112, 101, 110]⟩ : ByteArray) [.string (⟨#[39, 111, 112, 101, 110]⟩ : ByteArray)] from rfl) (Reps.one (show Kd.M Kd.string _ _ _ (⟨#[34, 92, 113, 34]⟩ : ByteArray) [.string (⟨#[34, 92, 113, 34]⟩ : ByteArray)] from rfl) (Reps.one (show Kd.M Kd.string _ _ _ (⟨#[45]⟩ : ByteArray) [.string (⟨#[45]⟩ : ByteArray)] from rfl) (Reps.one (show Kd.M Kd.string _ _ _ (⟨#[58]⟩ : ByteArray) [.string (⟨#[58]⟩ : ByteArray)] from rfl) (Reps.one (show Kd.M Kd.string _ _ _ (⟨#[116, 101, 120, 116, 32, 111, 102, 32, 119, 111, 114, 100, 115]⟩ : ByteArray) [.string (⟨#[116, 101, 120, 116, 32, 111, 102, 32, 119, 111, 114, 100, 115]⟩ : ByteArray)] from rfl) (Reps.one (show Kd.M Kd.string _ _ _ (⟨#[10, 45, 32]⟩ : ByteArray) [.string (⟨#[10, 45, 32]⟩ : ByteArray)] from rfl) (Reps.one (show Kd.M Kd.string _ _ _ (⟨#[10, 107, 58, 32]⟩ : ByteArray) [.string (⟨#[10, 107, 58, 32]⟩ : ByteArray)] from rfl) (Reps.one (show Kd.M Kd.string _ _ _ (⟨#[32, 32]⟩ : ByteArray) [.string (⟨#[32, 32]⟩ : ByteArray)] from rfl) (Reps.one (show Kd.M Kd.string _ _ _ (⟨#[35, 32, 111, 102, 102]⟩ : ByteArray) [.string (⟨#[35, 32, 111, 102, 102]⟩ : ByteArray)] from rfl) (Reps.one (show Kd.M Kd.string _ _ _ (⟨#[44]⟩ : ByteArray) [.string (⟨#[44]⟩ : ByteArray)] from rfl) (Reps.one (show Kd.M Kd.string _ _ _ (⟨#[124, 43]⟩ : ByteArray) [.string (⟨#[124, 43]⟩ : ByteArray)] from rfl) (Reps.one (show Kd.M Kd.string _ _ _ (⟨#[10, 10]⟩ : ByteArray) [.string (⟨#[10, 10]⟩ : ByteArray)] from rfl) (Reps.none _ _))))))))))))))))))))))))))))))))))))))))))); intro v103 w5 ho6 hb hg_ hnew_; clear hg_ hnew_; (first | rw [← Ny102.out] at ho6 | (simp only [Int.reduceToNat] at ho6; rw [← Ny102.out] at ho6)); have n0_ := Aside0.mk (Kd.R_lower ho6 (below_size (by repeat (first | (with_reducible first | exact HB.out | apply below_alloc | apply pw_below_drewN | apply below_drew1) | exact HB.out)))); have n1_ := Aside0.mk (below_step (by repeat (first | (with_reducible first | exact HB.out | apply below_alloc | apply pw_below_drewN | apply below_drew1) | exact HB.out)) hb); clear HB; have HO104 := n0_; have HB := n1_; clear n0_ n1_; clear hb ho6; obtain ⟨Ao7, co7, eo7⟩ := Kd.R_slice HO104.out; subst eo7) | ((with_reducible refine gate_callee (f := 16) rfl ?_); refine goesL_ (some 9) rfl rfl Try.func16 (by kernel_rfl) rfl #[.int .i64 a0, .int .i64 (y102.length : Int)] rfl (by (try simp only [List.map_toArray, List.map_cons, List.map_nil]); first | done | rfl | (simp only [List.length_drop, List.length_take]; rfl) | (simp only [ByteArray.size_extract, Nat.min_self]; done) | (simp only [ByteArray.size_extract, Nat.min_self]; rfl)) ?_; (with_reducible refine (correctorlaw6_within.calls a0 (y102.length : Int) t105 _ A2.out).mono ?_); rintro e w' ⟨rfl, ⟨nd, rfl⟩⟩; refine ⟨_, rfl, ?_⟩; have p106 : 0 ≤ (t105 : Int) := of_decide_eq_true (by first | (with_reducible assumption) | assumption); have q106 : t105 < (y102.length : Int) := of_decide_eq_true (by first | (with_reducible assumption) | assumption); obtain ⟨ad106, e106, hx106_0⟩ := Kd.at_string (Kd.R_reads' HO104.out).2.2 t105 p106 q106; cases e106; replace p106 := eq_true p106; replace q106 := eq_true q106))
      go_ret
      exact ⟨by first | rfl | (simp [errW_none, errW_some] <;> rfl) | (simp [*, errW_none, errW_some] <;> rfl), by repeat (first | (with_reducible first | exact HB.out | apply below_alloc | apply pw_below_drewN | apply below_drew1) | exact HB.out)⟩
    · rw [if_neg c4] at H
      exact absurd H (by simp)
  · rw [if_neg c3] at H
    exact absurd H (by simp)

/-! ### correctorlaw6_Same: function 12 -/
def correctorlaw6_Same.l0 : Nat → List (S32) → List (S32) → Int → Option (Bool)
  | 0, _, _, _ => none
  | k + 1, x0, x1, x5 => if x5 < (x0.length : Int) then (if 0 ≤ x5 then (if x5 < (x1.length : Int) then (if (!(((rd_T32 x0 x5).f0) == ((rd_T32 x1 x5).f0)) || (!(((rd_T32 x0 x5).f1) == ((rd_T32 x1 x5).f1)) || (!(((rd_T32 x0 x5).f2) == ((rd_T32 x1 x5).f2))))) = true then (some false) else (correctorlaw6_Same.l0 k x0 x1 (wrap64 (x5 + 1)))) else (none)) else (none)) else (some true)
def correctorlaw6_Same.f (k : Nat) (l0 : List (S32)) (l1 : List (S32)) : Option (Bool) := if (l0.length : Int) = (l1.length : Int) then (correctorlaw6_Same.l0 k l0 l1 0) else (some false)
theorem correctorlaw6_Same.mono_l : ∀ k, (∀ y0 y1 y2, LeO (correctorlaw6_Same.l0 k y0 y1 y2) (correctorlaw6_Same.l0 (k + 1) y0 y1 y2))
  | 0 => fun _ _ _ r h => by simp [correctorlaw6_Same.l0] at h
  | k + 1 => by
    have ih0 := correctorlaw6_Same.mono_l k
    · intro y0 y1 y2
      unfold correctorlaw6_Same.l0
      repeat' first
      | (with_reducible exact ih0 _ _ _)
      | (with_reducible exact LeO.refl _)
      | (with_reducible exact LeO.none _)
      | (with_reducible refine LeO.ite ?_ ?_)
      | (with_reducible refine LeO.bind ?_ (fun _ => ?_))
      | exact ih0 _ _ _
      | exact LeO.none _
      | refine LeO.ite ?_ ?_
      | refine LeO.bind ?_ (fun _ => ?_)
theorem correctorlaw6_Same.mono : ∀ a0 a1 k, LeO (correctorlaw6_Same.f k a0 a1) (correctorlaw6_Same.f (k + 1) a0 a1) := by
  intro a0 a1 k
  have ih0 := correctorlaw6_Same.mono_l k
  unfold correctorlaw6_Same.f
  repeat' first
      | (with_reducible exact ih0 _ _ _)
      | (with_reducible exact LeO.refl _)
      | (with_reducible exact LeO.none _)
      | (with_reducible refine LeO.ite ?_ ?_)
      | (with_reducible refine LeO.bind ?_ (fun _ => ?_))
      | exact ih0 _ _ _
      | exact LeO.none _
      | refine LeO.ite ?_ ?_
      | refine LeO.bind ?_ (fun _ => ?_)
set_option maxHeartbeats 8000000 in
set_option maxRecDepth 100000 in
theorem correctorlaw6_Same.calls (k : Nat) (A0 : Option Addr) (c0 : Nat) (l0 : List (S32)) (A1 : Option Addr) (c1 : Nat) (l1 : List (S32)) (r : Bool) (w : World) (hr0 : Kd.C k32 w A0 l0.length l0) (hc0 : l0.length ≤ c0) (hr1 : Kd.C k32 w A1 l1.length l1) (hc1 : l1.length ≤ c1) (h : correctorlaw6_Same.f k l0 l1 = some r) :
    Calls Try.prog 12 #[.slice A0 l0.length c0, .slice A1 l1.length c1] w fun e w' => e = .returned (.bool r) ∧ Drawn0 w w' := by
  have hu32 := Try.underlying32
  have HR0 := Aside0.mk hr0
  have HC0 := Aside0.mk hc0
  clear hr0 hc0
  have HR1 := Aside0.mk hr1
  have HC1 := Aside0.mk hc1
  clear hr1 hc1
  have H : (if (l0.length : Int) = (l1.length : Int) then (correctorlaw6_Same.l0 k l0 l1 0) else (some false)) = some r := h
  clear h
  by_cases c3 : (l0.length : Int) = (l1.length : Int)
  · rw [if_pos c3] at H
    have c3b0 : ((l0.length : Int) == (l1.length : Int)) = true := beq_iff_eq.mpr c3
    have c3b1 : ((l0.length : Int) != (l1.length : Int)) = false := bne_eq_false_iff_eq.mpr c3
    have c3b2 : (l0.length == l1.length) = true := by first | simpa using c3 | (simp at c3 ⊢; omega)
    clear c3
    have H' := Aside0.mk H
    clear H
    go_enter Try.func12, Try.ntmps12
    go_wp2
    repeat (go_quiet (fail); try go_wp2)
    go_loopg [5] k (fun kq v5 w' => ∃ (x5_1 : Int), v5 = .int .i64 x5_1 ∧ Aside0 (correctorlaw6_Same.l0 kq l0 l1 x5_1 = some r) ∧ Aside0 (kq ≤ k) ∧ Drawn0 w w')
    case atStart => exact ⟨(0), (by first | rfl | (simp; done) | (simp [*]; done)), H', ⟨Nat.le_refl _⟩, by repeat (first | exact Drawn0.refl _ | apply Drawn0.step)⟩
    case round =>
      clear H'
      try clear c1
      try clear p2
      try clear c3
      try clear c3b0
      try clear c3b1
      try clear c3b2
      obtain ⟨x5_1, rfl, HA, HK1, ⟨m1, rfl⟩⟩ := hrel
      cases gk with
      | zero => exact absurd HA.out (by simp [correctorlaw6_Same.l0])
      | succ k1 =>
        have H := HA.out
        clear HA
        simp only [correctorlaw6_Same.l0] at H
        by_cases c4 : x5_1 < (l0.length : Int)
        · rw [if_pos c4] at H
          have c4b0 : decide (x5_1 < (l0.length : Int)) = true := decide_eq_true c4
          clear c4
          by_cases c5 : 0 ≤ x5_1
          · rw [if_pos c5] at H
            have c5b0 : decide (0 ≤ x5_1) = true := decide_eq_true c5
            clear c5
            by_cases c6 : x5_1 < (l1.length : Int)
            · rw [if_pos c6] at H
              have c6b0 : decide (x5_1 < (l1.length : Int)) = true := decide_eq_true c6
              clear c6
              by_cases c7 : (!(((rd_T32 l0 x5_1).f0) == ((rd_T32 l1 x5_1).f0)) || (!(((rd_T32 l0 x5_1).f1) == ((rd_T32 l1 x5_1).f1)) || (!(((rd_T32 l0 x5_1).f2) == ((rd_T32 l1 x5_1).f2))))) = true
              · rw [if_pos c7] at H
                have c7b0 : (!(((rd_T32 l0 x5_1).f0) == ((rd_T32 l1 x5_1).f0)) || (!(((rd_T32 l0 x5_1).f1) == ((rd_T32 l1 x5_1).f1)) || (!(((rd_T32 l0 x5_1).f2) == ((rd_T32 l1 x5_1).f2))))) = true := c7
                clear c7
                obtain rfl := Option.some.inj H
                have p124 : 0 ≤ (x5_1 : Int) := of_decide_eq_true (by first | (with_reducible assumption) | assumption)
                have q124 : x5_1 < (l0.length : Int) := of_decide_eq_true (by first | (with_reducible assumption) | assumption)
                obtain ⟨ad124, e124, hx124_0, hx124_1, hx124_2⟩ := at_T32 HR0.out x5_1 p124 q124
                cases e124
                replace p124 := eq_true p124
                replace q124 := eq_true q124
                have p125 : 0 ≤ (x5_1 : Int) := of_decide_eq_true (by first | (with_reducible assumption) | assumption)
                have q125 : x5_1 < (l1.length : Int) := of_decide_eq_true (by first | (with_reducible assumption) | assumption)
                obtain ⟨ad125, e125, hx125_0, hx125_1, hx125_2⟩ := at_T32 HR1.out x5_1 p125 q125
                cases e125
                replace p125 := eq_true p125
                replace q125 := eq_true q125
                go_wp2
                repeat (go_quiet (fail); try go_wp2)
                go_ret
                exact ⟨by first | rfl | (simp; done) | (simp [*]; done), by repeat (first | exact Drawn0.refl _ | apply Drawn0.step)⟩
              · rw [if_neg c7] at H
                have c7b0 : (!(((rd_T32 l0 x5_1).f0) == ((rd_T32 l1 x5_1).f0)) || (!(((rd_T32 l0 x5_1).f1) == ((rd_T32 l1 x5_1).f1)) || (!(((rd_T32 l0 x5_1).f2) == ((rd_T32 l1 x5_1).f2))))) = false := by simpa using c7
                clear c7
                have H' := Aside0.mk H
                clear H
                have p124 : 0 ≤ (x5_1 : Int) := of_decide_eq_true (by first | (with_reducible assumption) | assumption)
                have q124 : x5_1 < (l0.length : Int) := of_decide_eq_true (by first | (with_reducible assumption) | assumption)
                obtain ⟨ad124, e124, hx124_0, hx124_1, hx124_2⟩ := at_T32 HR0.out x5_1 p124 q124
                cases e124
                replace p124 := eq_true p124
                replace q124 := eq_true q124
                have p125 : 0 ≤ (x5_1 : Int) := of_decide_eq_true (by first | (with_reducible assumption) | assumption)
                have q125 : x5_1 < (l1.length : Int) := of_decide_eq_true (by first | (with_reducible assumption) | assumption)
                obtain ⟨ad125, e125, hx125_0, hx125_1, hx125_2⟩ := at_T32 HR1.out x5_1 p125 q125
                cases e125
                replace p125 := eq_true p125
                replace q125 := eq_true q125
                go_wp2
                repeat (go_quiet (fail); try go_wp2)
                go_roundg k1
                case measure => have := HK1.out; omega
                case rel => exact ⟨(wrap64 (x5_1 + 1)), (by first | rfl | (simp; done) | (simp [*]; done)), H', ⟨by have := HK1.out; omega⟩, by repeat (first | exact Drawn0.refl _ | apply Drawn0.step)⟩
            · rw [if_neg c6] at H
              exact absurd H (by simp)
          · rw [if_neg c5] at H
            exact absurd H (by simp)
        · rw [if_neg c4] at H
          have c4b0 : decide (x5_1 < (l0.length : Int)) = false := decide_eq_false c4
          clear c4
          obtain rfl := Option.some.inj H
          go_wp2
          repeat (go_quiet (fail); try go_wp2)
          go_ret
          exact ⟨by first | rfl | (simp; done) | (simp [*]; done), by repeat (first | exact Drawn0.refl _ | apply Drawn0.step)⟩
  · rw [if_neg c3] at H
    have c3b0 : ((l0.length : Int) == (l1.length : Int)) = false := beq_eq_false_iff_ne.mpr c3
    have c3b1 : ((l0.length : Int) != (l1.length : Int)) = true := bne_iff_ne.mpr c3
    have c3b2 : (l0.length == l1.length) = false := by first | simpa using c3 | (simp at c3 ⊢; omega)
    obtain rfl := Option.some.inj H
    go_enter Try.func12, Try.ntmps12
    go_wp2
    repeat (go_quiet (fail); try go_wp2)
    go_ret
    exact ⟨by first | rfl | (simp; done) | (simp [*]; done), by repeat (first | exact Drawn0.refl _ | apply Drawn0.step)⟩

end Go.Proofs.Ythoogadfhopkfaa.Q
