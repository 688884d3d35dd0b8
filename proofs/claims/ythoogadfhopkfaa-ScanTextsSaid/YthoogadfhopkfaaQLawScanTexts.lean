/- Proved here, in the forms of the print's contracts: what each Go function answers, and the rows of the laws over it; by a program and by hand. -/
import Derived.Test.YthoogadfhopkfaaQ0
import Derived.Test.YthoogadfhopkfaaQcorrectorlaw6
import Derived.Test.YthoogadfhopkfaaQscan
namespace Go.Proofs.Ythoogadfhopkfaa.Q
open Go.RowKit Go.Proofs.YthoogadfhopkfaaW.PrintWords Go.Proofs.YthoogadfhopkfaaW.PrintLast Go.Proofs.YthoogadfhopkfaaW.PrintMore
attribute [local go_sem] max2_int min2_int max_two min_two max_three min_three max_four min_four   -- for this text's walks alone
set_option linter.unusedVariables false
set_option linter.unusedSimpArgs false

/-! ### correctorlaw6_ScanTexts: function 7 -/
mutual
def correctorlaw6_ScanTexts.j1 : Nat → Int → ByteArray → Int → Option (Bool)
  | 0, _, _, _ => none
  | k + 1, x0, x5, x6 => if 0 ≤ x0 then (if x0 ≤ 5 then (if x5.size + ((⟨#[32, 32, 32, 32, 32]⟩ : ByteArray).extract 0 (x0 : Int).toNat).size ≤ 9223372036854775807 then (if (x5 ++ ((⟨#[32, 32, 32, 32, 32]⟩ : ByteArray).extract 0 (x0 : Int).toNat)).size + 3 ≤ 9223372036854775807 then (if ((x5 ++ ((⟨#[32, 32, 32, 32, 32]⟩ : ByteArray).extract 0 (x0 : Int).toNat)) ++ (⟨#[101, 110, 100]⟩ : ByteArray)).size ≤ 9223372036854775807 then ((scan_Tokens.f (bytesOf ((x5 ++ ((⟨#[32, 32, 32, 32, 32]⟩ : ByteArray).extract 0 (x0 : Int).toNat)) ++ (⟨#[101, 110, 100]⟩ : ByteArray)))).bind fun t253 => (correctorlaw6_ScanTexts.l1 k ((x5 ++ ((⟨#[32, 32, 32, 32, 32]⟩ : ByteArray).extract 0 (x0 : Int).toNat)) ++ (⟨#[101, 110, 100]⟩ : ByteArray)) x6 t253 0 0)) else (none)) else (none)) else (none)) else (none)) else (none)
def correctorlaw6_ScanTexts.l1 : Nat → ByteArray → Int → List (S32) → Int → Int → Option (Bool)
  | 0, _, _, _, _, _ => none
  | k + 1, x5, x6, x8, x9, x10 => if x10 < (x8.length : Int) then (if 0 ≤ x10 then (if ((rd_T32 x8 x10).f0) = 19 then (correctorlaw6_ScanTexts.l1 k x5 x6 x8 (wrap64 (x9 + 1)) (wrap64 (x10 + 1))) else (correctorlaw6_ScanTexts.l1 k x5 x6 x8 x9 (wrap64 (x10 + 1)))) else (none)) else (if x9 = x6 then (if (x8.length : Int) > 0 then (if 0 ≤ (wrap64 ((x8.length : Int) - 1)) then (if (wrap64 ((x8.length : Int) - 1)) < (x8.length : Int) then (if ((rd_T32 x8 (wrap64 ((x8.length : Int) - 1))).f0) = 15 then (some (((rd_T32 x8 (wrap64 ((x8.length : Int) - 1))).f2) == (x5.size : Int))) else (some false)) else (none)) else (none)) else (some false)) else (some false))
def correctorlaw6_ScanTexts.l0 : Nat → Int → List Int → ByteArray → Int → Int → Option (Bool)
  | 0, _, _, _, _, _ => none
  | k + 1, x0, x1, x5, x6, x7 => if x7 < (x1.length : Int) then (if x7 < 10 then (if 0 ≤ (wrap64 (x0 + 1)) then (if (wrap64 (x0 + 1)) ≤ 6 then (if x5.size + ((⟨#[32, 32, 32, 32, 32, 32]⟩ : ByteArray).extract 0 ((wrap64 (x0 + 1)) : Int).toNat).size ≤ 9223372036854775807 then ((some (([(⟨#[45, 32, 97]⟩ : ByteArray), (⟨#[91]⟩ : ByteArray), (⟨#[34, 111, 112, 101, 110]⟩ : ByteArray), (⟨#[35, 32, 110, 111, 32, 99, 111, 109, 109, 101, 110, 116]⟩ : ByteArray), (⟨#[45, 45, 45]⟩ : ByteArray), (⟨#[38, 120]⟩ : ByteArray)] : List ByteArray) : List ByteArray)).bind fun y244 => (if 0 ≤ x7 then ((correctorlaw6_within.f (rd x1 x7) 6).bind fun t248 => (if 0 ≤ t248 then (if t248 < (y244.length : Int) then (if (x5 ++ ((⟨#[32, 32, 32, 32, 32, 32]⟩ : ByteArray).extract 0 ((wrap64 (x0 + 1)) : Int).toNat)).size + (rdOf ByteArray.empty y244 t248).size ≤ 9223372036854775807 then (if ((x5 ++ ((⟨#[32, 32, 32, 32, 32, 32]⟩ : ByteArray).extract 0 ((wrap64 (x0 + 1)) : Int).toNat)) ++ (rdOf ByteArray.empty y244 t248)).size + 1 ≤ 9223372036854775807 then (correctorlaw6_ScanTexts.l0 k x0 x1 (((x5 ++ ((⟨#[32, 32, 32, 32, 32, 32]⟩ : ByteArray).extract 0 ((wrap64 (x0 + 1)) : Int).toNat)) ++ (rdOf ByteArray.empty y244 t248)) ++ (⟨#[10]⟩ : ByteArray)) (wrap64 (x6 + 1)) (wrap64 (x7 + 1))) else (none)) else (none)) else (none)) else (none))) else (none))) else (none)) else (none)) else (none)) else (correctorlaw6_ScanTexts.j1 k x0 x5 x6)) else (correctorlaw6_ScanTexts.j1 k x0 x5 x6)
end
def correctorlaw6_ScanTexts.f (k : Nat) (a0 : Int) (l1 : List Int) : Option (Bool) := (correctorlaw6_known.f).bind fun t242 => (if t242 = true then ((correctorlaw6_within.f a0 5).bind fun t243 => (if 0 ≤ t243 then (if t243 ≤ 5 then (if ((⟨#[32, 32, 32, 32, 32]⟩ : ByteArray).extract 0 (t243 : Int).toNat).size + 5 ≤ 9223372036854775807 then (correctorlaw6_ScanTexts.l0 k t243 l1 (((⟨#[32, 32, 32, 32, 32]⟩ : ByteArray).extract 0 (t243 : Int).toNat) ++ (⟨#[107, 58, 32, 124, 10]⟩ : ByteArray)) 0 0) else (none)) else (none)) else (none))) else (some false))
theorem correctorlaw6_ScanTexts.mono_l : ∀ k, (∀ y0 y1 y2, LeO (correctorlaw6_ScanTexts.j1 k y0 y1 y2) (correctorlaw6_ScanTexts.j1 (k + 1) y0 y1 y2)) ∧ (∀ y0 y1 y2 y3 y4, LeO (correctorlaw6_ScanTexts.l1 k y0 y1 y2 y3 y4) (correctorlaw6_ScanTexts.l1 (k + 1) y0 y1 y2 y3 y4)) ∧ (∀ y0 y1 y2 y3 y4, LeO (correctorlaw6_ScanTexts.l0 k y0 y1 y2 y3 y4) (correctorlaw6_ScanTexts.l0 (k + 1) y0 y1 y2 y3 y4))
  | 0 => ⟨fun _ _ _ r h => by simp [correctorlaw6_ScanTexts.j1] at h, fun _ _ _ _ _ r h => by simp [correctorlaw6_ScanTexts.l1] at h, fun _ _ _ _ _ r h => by simp [correctorlaw6_ScanTexts.l0] at h⟩
  | k + 1 => by
    obtain ⟨ih0, ih1, ih2⟩ := correctorlaw6_ScanTexts.mono_l k
    refine ⟨?_, ?_, ?_⟩
    · intro y0 y1 y2
      unfold correctorlaw6_ScanTexts.j1
      repeat' first
      | (with_reducible exact ih0 _ _ _)
      | (with_reducible exact ih1 _ _ _ _ _)
      | (with_reducible exact ih2 _ _ _ _ _)
      | (with_reducible exact LeO.refl _)
      | (with_reducible exact LeO.none _)
      | (with_reducible refine LeO.ite ?_ ?_)
      | (with_reducible refine LeO.bind ?_ (fun _ => ?_))
      | exact ih0 _ _ _
      | exact ih1 _ _ _ _ _
      | exact ih2 _ _ _ _ _
      | exact LeO.none _
      | refine LeO.ite ?_ ?_
      | refine LeO.bind ?_ (fun _ => ?_)
    · intro y0 y1 y2 y3 y4
      unfold correctorlaw6_ScanTexts.l1
      repeat' first
      | (with_reducible exact ih0 _ _ _)
      | (with_reducible exact ih1 _ _ _ _ _)
      | (with_reducible exact ih2 _ _ _ _ _)
      | (with_reducible exact LeO.refl _)
      | (with_reducible exact LeO.none _)
      | (with_reducible refine LeO.ite ?_ ?_)
      | (with_reducible refine LeO.bind ?_ (fun _ => ?_))
      | exact ih0 _ _ _
      | exact ih1 _ _ _ _ _
      | exact ih2 _ _ _ _ _
      | exact LeO.none _
      | refine LeO.ite ?_ ?_
      | refine LeO.bind ?_ (fun _ => ?_)
    · intro y0 y1 y2 y3 y4
      unfold correctorlaw6_ScanTexts.l0
      repeat' first
      | (with_reducible exact ih0 _ _ _)
      | (with_reducible exact ih1 _ _ _ _ _)
      | (with_reducible exact ih2 _ _ _ _ _)
      | (with_reducible exact LeO.refl _)
      | (with_reducible exact LeO.none _)
      | (with_reducible refine LeO.ite ?_ ?_)
      | (with_reducible refine LeO.bind ?_ (fun _ => ?_))
      | exact ih0 _ _ _
      | exact ih1 _ _ _ _ _
      | exact ih2 _ _ _ _ _
      | exact LeO.none _
      | refine LeO.ite ?_ ?_
      | refine LeO.bind ?_ (fun _ => ?_)
theorem correctorlaw6_ScanTexts.mono : ∀ a0 a1 k, LeO (correctorlaw6_ScanTexts.f k a0 a1) (correctorlaw6_ScanTexts.f (k + 1) a0 a1) := by
  intro a0 a1 k
  obtain ⟨ih0, ih1, ih2⟩ := correctorlaw6_ScanTexts.mono_l k
  unfold correctorlaw6_ScanTexts.f
  repeat' first
      | (with_reducible exact ih0 _ _ _)
      | (with_reducible exact ih1 _ _ _ _ _)
      | (with_reducible exact ih2 _ _ _ _ _)
      | (with_reducible exact LeO.refl _)
      | (with_reducible exact LeO.none _)
      | (with_reducible refine LeO.ite ?_ ?_)
      | (with_reducible refine LeO.bind ?_ (fun _ => ?_))
      | exact ih0 _ _ _
      | exact ih1 _ _ _ _ _
      | exact ih2 _ _ _ _ _
      | exact LeO.none _
      | refine LeO.ite ?_ ?_
      | refine LeO.bind ?_ (fun _ => ?_)
def correctorlaw6_ScanTexts.T9 : Bool × List (List Nat × List Nat) := (true, [([], []), ([], []), ([1], [1]), ([2], [2]), ([0, 3], [0, 3]), ([], []), ([], []), ([], []), ([6, 7], [6, 7]), ([8], [8]), ([9], [9]), ([5, 10], [5, 10]), ([11], [11]), ([4, 12], [4, 12]), ([13], [13]), ([14, 10, 0, 1, 2, 3, 4, 5, 6, 7, 8, 9, 10, 11, 12, 13, 14], [0, 14])])
def correctorlaw6_ScanTexts.B9 : List Nat := [0, 0, 2, 6, 15, 0, 0, 0, 192, 448, 960, 2016, 4064, 8191, 16383, 32767]
theorem correctorlaw6_ScanTexts.tab9 : rtab .any (opsOf Try.f7 9) = correctorlaw6_ScanTexts.T9 := by kernel_rfl
theorem correctorlaw6_ScanTexts.bits9 : waitsOk correctorlaw6_ScanTexts.T9.2 correctorlaw6_ScanTexts.B9 = true := by kernel_rfl
set_option maxHeartbeats 8000000 in
set_option maxRecDepth 100000 in
theorem correctorlaw6_ScanTexts.calls (k : Nat) (a0 : Int) (A1 : Option Addr) (c1 : Nat) (l1 : List Int) (r : Bool) (w : World) (hr1 : Kd.C (Kd.int .i64) w A1 l1.length l1) (hc1 : l1.length ≤ c1) (h : correctorlaw6_ScanTexts.f k a0 l1 = some r) :
    Calls Try.prog 7 #[.int .i64 a0, .slice A1 l1.length c1] w fun e w' => e = .returned (.bool r) ∧ Below w.heap.size w w' := by
  have HR1 := Aside0.mk hr1
  have HC1 := Aside0.mk hc1
  clear hr1 hc1
  have HB := Aside0.mk (Below.refl w.heap.size w)
  have H : ((correctorlaw6_known.f).bind fun t242 => (if t242 = true then ((correctorlaw6_within.f a0 5).bind fun t243 => (if 0 ≤ t243 then (if t243 ≤ 5 then (if ((⟨#[32, 32, 32, 32, 32]⟩ : ByteArray).extract 0 (t243 : Int).toNat).size + 5 ≤ 9223372036854775807 then (correctorlaw6_ScanTexts.l0 k t243 l1 (((⟨#[32, 32, 32, 32, 32]⟩ : ByteArray).extract 0 (t243 : Int).toNat) ++ (⟨#[107, 58, 32, 124, 10]⟩ : ByteArray)) 0 0) else (none)) else (none)) else (none))) else (some false))) = some r := h
  clear h
  replace H := Option.bind_eq_some_iff.mp H
  obtain ⟨t242, A30, H⟩ := H
  replace H : (if t242 = true then ((correctorlaw6_within.f a0 5).bind fun t243 => (if 0 ≤ t243 then (if t243 ≤ 5 then (if ((⟨#[32, 32, 32, 32, 32]⟩ : ByteArray).extract 0 (t243 : Int).toNat).size + 5 ≤ 9223372036854775807 then (correctorlaw6_ScanTexts.l0 k t243 l1 (((⟨#[32, 32, 32, 32, 32]⟩ : ByteArray).extract 0 (t243 : Int).toNat) ++ (⟨#[107, 58, 32, 124, 10]⟩ : ByteArray)) 0 0) else (none)) else (none)) else (none))) else (some false)) = some r := H
  have A3 := Aside0.mk A30
  clear A30
  by_cases c4 : t242 = true
  · subst c4
    have H1 : ((correctorlaw6_within.f a0 5).bind fun t243 => (if 0 ≤ t243 then (if t243 ≤ 5 then (if ((⟨#[32, 32, 32, 32, 32]⟩ : ByteArray).extract 0 (t243 : Int).toNat).size + 5 ≤ 9223372036854775807 then (correctorlaw6_ScanTexts.l0 k t243 l1 (((⟨#[32, 32, 32, 32, 32]⟩ : ByteArray).extract 0 (t243 : Int).toNat) ++ (⟨#[107, 58, 32, 124, 10]⟩ : ByteArray)) 0 0) else (none)) else (none)) else (none))) = some r := by rw [if_pos rfl] at H; exact H
    clear H
    have H := H1
    clear H1
    replace H := Option.bind_eq_some_iff.mp H
    obtain ⟨t243, A50, H⟩ := H
    replace H : (if 0 ≤ t243 then (if t243 ≤ 5 then (if ((⟨#[32, 32, 32, 32, 32]⟩ : ByteArray).extract 0 (t243 : Int).toNat).size + 5 ≤ 9223372036854775807 then (correctorlaw6_ScanTexts.l0 k t243 l1 (((⟨#[32, 32, 32, 32, 32]⟩ : ByteArray).extract 0 (t243 : Int).toNat) ++ (⟨#[107, 58, 32, 124, 10]⟩ : ByteArray)) 0 0) else (none)) else (none)) else (none)) = some r := H
    have A5 := Aside0.mk A50
    clear A50
    by_cases c6 : 0 ≤ t243
    · rw [if_pos c6] at H
      have c6b0 := eq_true c6
      have c6b1 : decide (0 ≤ t243) = true := decide_eq_true c6
      clear c6
      by_cases c7 : t243 ≤ 5
      · rw [if_pos c7] at H
        have c7b0 := eq_true c7
        have c7b1 : decide (t243 ≤ 5) = true := decide_eq_true c7
        clear c7
        by_cases c8 : ((⟨#[32, 32, 32, 32, 32]⟩ : ByteArray).extract 0 (t243 : Int).toNat).size + 5 ≤ 9223372036854775807
        · rw [if_pos c8] at H
          (try (have c8v : (9223372036854775807 < t243.toNat + 5) = False := eq_false (by have h_ := c8; simp only [ByteArray.size_append, ByteArray.size_extract] at h_; have e_0 : t243 ≤ 5 := of_eq_true (by assumption); have z_0 : (⟨#[32, 32, 32, 32, 32]⟩ : ByteArray).size = 5 := rfl; have y_0 : (⟨#[32, 32, 32, 32, 32]⟩ : ByteArray).size = 5 := rfl; omega)))
          have c8b0 := eq_true c8
          have c8b1 : decide (((⟨#[32, 32, 32, 32, 32]⟩ : ByteArray).extract 0 (t243 : Int).toNat).size + 5 ≤ 9223372036854775807) = true := decide_eq_true c8
          try have c8b2 : (9223372036854775807 < ((⟨#[32, 32, 32, 32, 32]⟩ : ByteArray).extract 0 (t243 : Int).toNat).size + 5) = False := eq_false (Nat.not_lt.2 c8)
          have HC9 := Aside0.mk H
          clear H
          go_enter Try.func7, Try.ntmps7
          go_upto_block 0 with (first | ((with_reducible refine gate_callee (f := 10) rfl ?_); refine goesL_ (some 11) rfl rfl Try.func10 (by kernel_rfl) rfl #[] rfl (by (try simp only [List.map_toArray, List.map_cons, List.map_nil]); first | done | rfl | (simp only [List.length_drop, List.length_take]; rfl) | (simp only [ByteArray.size_extract, Nat.min_self]; done) | (simp only [ByteArray.size_extract, Nat.min_self]; rfl)) ?_; (with_reducible refine (correctorlaw6_known.calls  true _ A3.out).mono ?_); rintro e w10 ⟨rfl, hb⟩; refine ⟨_, rfl, ?_⟩; have n0_ := Aside0.mk (below_step (by repeat (first | (with_reducible first | exact HB.out | apply below_alloc | apply pw_below_drewN | apply below_drew1) | exact HB.out)) hb); clear HB; have HB := n0_; clear n0_; (try clear hb); (try clear hb2); (try clear hk); (try clear hi)) | ((with_reducible refine gate_callee (f := 16) rfl ?_); refine goesL_ (some 14) rfl rfl Try.func16 (by kernel_rfl) rfl #[.int .i64 a0, .int .i64 5] rfl (by (try simp only [List.map_toArray, List.map_cons, List.map_nil]); first | done | rfl | (simp only [List.length_drop, List.length_take]; rfl) | (simp only [ByteArray.size_extract, Nat.min_self]; done) | (simp only [ByteArray.size_extract, Nat.min_self]; rfl)) ?_; (with_reducible refine (correctorlaw6_within.calls a0 5 t243 _ A5.out).mono ?_); rintro e w' ⟨rfl, ⟨nd, rfl⟩⟩; refine ⟨_, rfl, ?_⟩))
          (try simp only [Act.put, List.setIfInBounds_toArray, List.set_cons_zero, List.set_cons_succ])
          go_cut [5, 6] (fun v5 v6 wc => ∃ (kq : Nat) (x5_8 : ByteArray) (x6_8 : Int), v5 = .string x5_8 ∧ v6 = .int .i64 x6_8 ∧ Aside0 (correctorlaw6_ScanTexts.j1 kq t243 x5_8 x6_8 = some r) ∧ Aside0 (kq ≤ k) ∧ Aside0 (Below w.heap.size w wc))
          case first =>
            have H := HC9.out
            clear HC9
            have H' := Aside0.mk H
            clear H
            go_wp2
            go_loopg [5, 6, 7] k (fun kq v5 v6 v7 w' => ∃ (x5_1 : ByteArray) (x6_1 : Int) (x7_1 : Int), v5 = .string x5_1 ∧ v6 = .int .i64 x6_1 ∧ v7 = .int .i64 x7_1 ∧ Aside0 (correctorlaw6_ScanTexts.l0 kq t243 l1 x5_1 x6_1 x7_1 = some r) ∧ Aside0 (kq ≤ k) ∧ Aside0 (Below w.heap.size w w'))
            case atStart => exact ⟨(((⟨#[32, 32, 32, 32, 32]⟩ : ByteArray).extract 0 (t243 : Int).toNat) ++ (⟨#[107, 58, 32, 124, 10]⟩ : ByteArray)), (0), (0), (by first | rfl | (simp; done) | (simp [*]; done)), (by first | rfl | (simp; done) | (simp [*]; done)), (by first | rfl | (simp; done) | (simp [*]; done)), H', ⟨Nat.le_refl _⟩, ⟨by repeat (first | (with_reducible first | exact HB.out | apply below_alloc | apply pw_below_drewN | apply below_drew1) | exact HB.out)⟩⟩
            case round =>
              clear H'
              try clear c1
              try clear p2
              try clear c4
              try clear c6
              try clear c6b0
              try clear c6b1
              try clear c7
              try clear c7b0
              try clear c7b1
              try clear c8
              try clear c8b0
              try clear c8b1
              try clear c8b2
              try clear c10
              obtain ⟨x5_1, x6_1, x7_1, rfl, rfl, rfl, HA, HK1, HB⟩ := hrel
              cases gk with
              | zero => exact absurd HA.out (by simp [correctorlaw6_ScanTexts.l0])
              | succ k1 =>
                have H := HA.out
                clear HA
                simp only [correctorlaw6_ScanTexts.l0] at H
                by_cases c11 : x7_1 < (l1.length : Int)
                · rw [if_pos c11] at H
                  have c11b0 : decide (x7_1 < (l1.length : Int)) = true := decide_eq_true c11
                  clear c11
                  (first | rw [c11b0] | (simp only [i64_w, i32_w]; rw [c11b0]) | rw [c11b1] | skip)
                  by_cases c12 : x7_1 < 10
                  · rw [if_pos c12] at H
                    have c12b0 : decide (x7_1 < 10) = true := decide_eq_true c12
                    clear c12
                    obtain ⟨ji13, hji13⟩ : ∃ j_ : Int, (wrap64 (t243 + 1)) = j_ := ⟨_, rfl⟩
                    replace H : (if 0 ≤ (ji13) then (if (ji13) ≤ 6 then (if x5_1.size + ((⟨#[32, 32, 32, 32, 32, 32]⟩ : ByteArray).extract 0 ((ji13) : Int).toNat).size ≤ 9223372036854775807 then ((some (([(⟨#[45, 32, 97]⟩ : ByteArray), (⟨#[91]⟩ : ByteArray), (⟨#[34, 111, 112, 101, 110]⟩ : ByteArray), (⟨#[35, 32, 110, 111, 32, 99, 111, 109, 109, 101, 110, 116]⟩ : ByteArray), (⟨#[45, 45, 45]⟩ : ByteArray), (⟨#[38, 120]⟩ : ByteArray)] : List ByteArray) : List ByteArray)).bind fun y244 => (if 0 ≤ x7_1 then ((correctorlaw6_within.f (rd l1 x7_1) 6).bind fun t248 => (if 0 ≤ t248 then (if t248 < (y244.length : Int) then (if (x5_1 ++ ((⟨#[32, 32, 32, 32, 32, 32]⟩ : ByteArray).extract 0 ((ji13) : Int).toNat)).size + (rdOf ByteArray.empty y244 t248).size ≤ 9223372036854775807 then (if ((x5_1 ++ ((⟨#[32, 32, 32, 32, 32, 32]⟩ : ByteArray).extract 0 ((ji13) : Int).toNat)) ++ (rdOf ByteArray.empty y244 t248)).size + 1 ≤ 9223372036854775807 then (correctorlaw6_ScanTexts.l0 k1 t243 l1 (((x5_1 ++ ((⟨#[32, 32, 32, 32, 32, 32]⟩ : ByteArray).extract 0 ((ji13) : Int).toNat)) ++ (rdOf ByteArray.empty y244 t248)) ++ (⟨#[10]⟩ : ByteArray)) (wrap64 (x6_1 + 1)) (wrap64 (x7_1 + 1))) else (none)) else (none)) else (none)) else (none))) else (none))) else (none)) else (none)) else (none)) = some r := by first | (rw [hji13] at H; exact H) | (simp only [hji13] at H ⊢; exact H)
                    have hji13w : (IntKind.i64.wrap (t243 + 1)) = ji13 := (i64_w _).trans hji13
                    by_cases c14 : 0 ≤ (ji13)
                    · rw [if_pos c14] at H
                      have c14b0 := eq_true c14
                      have c14b1 : decide (0 ≤ (ji13)) = true := decide_eq_true c14
                      clear c14
                      by_cases c15 : (ji13) ≤ 6
                      · rw [if_pos c15] at H
                        have c15b0 := eq_true c15
                        have c15b1 : decide ((ji13) ≤ 6) = true := decide_eq_true c15
                        (try (have c15y := eq_true (show 0 ≤ 6 from Int.le_trans (of_eq_true (by assumption : (0 ≤ (ji13)) = True)) c15)))
                        clear c15
                        by_cases c16 : x5_1.size + ((⟨#[32, 32, 32, 32, 32, 32]⟩ : ByteArray).extract 0 ((ji13) : Int).toNat).size ≤ 9223372036854775807
                        · rw [if_pos c16] at H
                          (try (have c16v : (9223372036854775807 < x5_1.size + ji13.toNat) = False := eq_false (by have h_ := c16; simp only [ByteArray.size_append, ByteArray.size_extract] at h_; have e_0 : ji13 ≤ 6 := of_eq_true (by assumption); have z_0 : (⟨#[32, 32, 32, 32, 32, 32]⟩ : ByteArray).size = 6 := rfl; have y_0 : (⟨#[32, 32, 32, 32, 32, 32]⟩ : ByteArray).size = 6 := rfl; omega)))
                          have c16b0 := eq_true c16
                          have c16b1 : decide (x5_1.size + ((⟨#[32, 32, 32, 32, 32, 32]⟩ : ByteArray).extract 0 ((ji13) : Int).toNat).size ≤ 9223372036854775807) = true := decide_eq_true c16
                          try have c16b2 : (9223372036854775807 < x5_1.size + ((⟨#[32, 32, 32, 32, 32, 32]⟩ : ByteArray).extract 0 ((ji13) : Int).toNat).size) = False := eq_false (Nat.not_lt.2 c16)
                          obtain ⟨y244, hy244⟩ : ∃ y_ : List ByteArray, y_ = (([(⟨#[45, 32, 97]⟩ : ByteArray), (⟨#[91]⟩ : ByteArray), (⟨#[34, 111, 112, 101, 110]⟩ : ByteArray), (⟨#[35, 32, 110, 111, 32, 99, 111, 109, 109, 101, 110, 116]⟩ : ByteArray), (⟨#[45, 45, 45]⟩ : ByteArray), (⟨#[38, 120]⟩ : ByteArray)] : List ByteArray)) := ⟨_, rfl⟩
                          replace H : (if 0 ≤ x7_1 then ((correctorlaw6_within.f (rd l1 x7_1) 6).bind fun t248 => (if 0 ≤ t248 then (if t248 < (y244.length : Int) then (if (x5_1 ++ ((⟨#[32, 32, 32, 32, 32, 32]⟩ : ByteArray).extract 0 ((ji13) : Int).toNat)).size + (rdOf ByteArray.empty y244 t248).size ≤ 9223372036854775807 then (if ((x5_1 ++ ((⟨#[32, 32, 32, 32, 32, 32]⟩ : ByteArray).extract 0 ((ji13) : Int).toNat)) ++ (rdOf ByteArray.empty y244 t248)).size + 1 ≤ 9223372036854775807 then (correctorlaw6_ScanTexts.l0 k1 t243 l1 (((x5_1 ++ ((⟨#[32, 32, 32, 32, 32, 32]⟩ : ByteArray).extract 0 ((ji13) : Int).toNat)) ++ (rdOf ByteArray.empty y244 t248)) ++ (⟨#[10]⟩ : ByteArray)) (wrap64 (x6_1 + 1)) (wrap64 (x7_1 + 1))) else (none)) else (none)) else (none)) else (none))) else (none)) = some r := by first | (rw [hy244]; with_reducible exact H) | (have H2_ := (Option.bind_some _ _).symm.trans H; rw [hy244]; with_reducible exact H2_) | (have H2_ := (Option.bind_some _ _).symm.trans H; with_reducible exact H2_) | with_reducible exact H | (rw [hy244]; exact H) | exact H
                          have Ny244 := Aside0.mk hy244
                          clear hy244
                          by_cases c17 : 0 ≤ x7_1
                          · rw [if_pos c17] at H
                            have c17b0 : decide (0 ≤ x7_1) = true := decide_eq_true c17
                            clear c17
                            replace H := Option.bind_eq_some_iff.mp H
                            obtain ⟨t248, A180, H⟩ := H
                            replace H : (if 0 ≤ t248 then (if t248 < (y244.length : Int) then (if (x5_1 ++ ((⟨#[32, 32, 32, 32, 32, 32]⟩ : ByteArray).extract 0 ((ji13) : Int).toNat)).size + (rdOf ByteArray.empty y244 t248).size ≤ 9223372036854775807 then (if ((x5_1 ++ ((⟨#[32, 32, 32, 32, 32, 32]⟩ : ByteArray).extract 0 ((ji13) : Int).toNat)) ++ (rdOf ByteArray.empty y244 t248)).size + 1 ≤ 9223372036854775807 then (correctorlaw6_ScanTexts.l0 k1 t243 l1 (((x5_1 ++ ((⟨#[32, 32, 32, 32, 32, 32]⟩ : ByteArray).extract 0 ((ji13) : Int).toNat)) ++ (rdOf ByteArray.empty y244 t248)) ++ (⟨#[10]⟩ : ByteArray)) (wrap64 (x6_1 + 1)) (wrap64 (x7_1 + 1))) else (none)) else (none)) else (none)) else (none)) = some r := H
                            have A18 := Aside0.mk A180
                            clear A180
                            by_cases c19 : 0 ≤ t248
                            · rw [if_pos c19] at H
                              have c19b0 : decide (0 ≤ t248) = true := decide_eq_true c19
                              clear c19
                              by_cases c20 : t248 < (y244.length : Int)
                              · rw [if_pos c20] at H
                                have c20b0 : decide (t248 < (y244.length : Int)) = true := decide_eq_true c20
                                clear c20
                                by_cases c21 : (x5_1 ++ ((⟨#[32, 32, 32, 32, 32, 32]⟩ : ByteArray).extract 0 ((ji13) : Int).toNat)).size + (rdOf ByteArray.empty y244 t248).size ≤ 9223372036854775807
                                · rw [if_pos c21] at H
                                  (try (have c21v : (9223372036854775807 < x5_1.size + ji13.toNat + (rdOf ByteArray.empty y244 t248).size) = False := eq_false (by have h_ := c21; simp only [ByteArray.size_append, ByteArray.size_extract] at h_; have e_0 : ji13 ≤ 6 := of_eq_true (by assumption); have z_0 : (⟨#[32, 32, 32, 32, 32, 32]⟩ : ByteArray).size = 6 := rfl; have y_0 : (⟨#[32, 32, 32, 32, 32, 32]⟩ : ByteArray).size = 6 := rfl; omega)))
                                  have c21b0 := eq_true c21
                                  have c21b1 : decide ((x5_1 ++ ((⟨#[32, 32, 32, 32, 32, 32]⟩ : ByteArray).extract 0 ((ji13) : Int).toNat)).size + (rdOf ByteArray.empty y244 t248).size ≤ 9223372036854775807) = true := decide_eq_true c21
                                  try have c21b2 : (9223372036854775807 < (x5_1 ++ ((⟨#[32, 32, 32, 32, 32, 32]⟩ : ByteArray).extract 0 ((ji13) : Int).toNat)).size + (rdOf ByteArray.empty y244 t248).size) = False := eq_false (Nat.not_lt.2 c21)
                                  by_cases c22 : ((x5_1 ++ ((⟨#[32, 32, 32, 32, 32, 32]⟩ : ByteArray).extract 0 ((ji13) : Int).toNat)) ++ (rdOf ByteArray.empty y244 t248)).size + 1 ≤ 9223372036854775807
                                  · rw [if_pos c22] at H
                                    (try (have c22v : (9223372036854775807 < x5_1.size + ji13.toNat + (rdOf ByteArray.empty y244 t248).size + 1) = False := eq_false (by have h_ := c22; simp only [ByteArray.size_append, ByteArray.size_extract] at h_; have e_0 : ji13 ≤ 6 := of_eq_true (by assumption); have z_0 : (⟨#[32, 32, 32, 32, 32, 32]⟩ : ByteArray).size = 6 := rfl; have y_0 : (⟨#[32, 32, 32, 32, 32, 32]⟩ : ByteArray).size = 6 := rfl; omega)))
                                    have c22b0 := eq_true c22
                                    have c22b1 : decide (((x5_1 ++ ((⟨#[32, 32, 32, 32, 32, 32]⟩ : ByteArray).extract 0 ((ji13) : Int).toNat)) ++ (rdOf ByteArray.empty y244 t248)).size + 1 ≤ 9223372036854775807) = true := decide_eq_true c22
                                    try have c22b2 : (9223372036854775807 < ((x5_1 ++ ((⟨#[32, 32, 32, 32, 32, 32]⟩ : ByteArray).extract 0 ((ji13) : Int).toNat)) ++ (rdOf ByteArray.empty y244 t248)).size + 1) = False := eq_false (Nat.not_lt.2 c22)
                                    have H' := Aside0.mk H
                                    clear H
                                    try go_wp2
                                    have pi249 : (0 ≤ (t248 : Int)) = True := eq_true (of_decide_eq_true (by first | (with_reducible assumption) | assumption))
                                    have qi249 : (t248 < (y244.length : Int)) = True := eq_true (of_decide_eq_true (by first | (with_reducible assumption) | assumption))
                                    have n0_ := Aside0.mk (below_drew1 HB.out)
                                    clear HB
                                    have HB := n0_
                                    clear n0_
                                    have p247 : 0 ≤ (x7_1 : Int) := of_decide_eq_true (by first | (with_reducible assumption) | assumption)
                                    have q247 : x7_1 < (l1.length : Int) := of_decide_eq_true (by first | (with_reducible assumption) | assumption)
                                    obtain ⟨ad247, e247, hx247_0⟩ := Kd.at_int HR1.out x7_1 p247 q247
                                    have hw247_0 := hx247_0
                                    cases e247
                                    replace hx247_0 := (HB.out.cell (World.block_lt_of_cell? w _ hx247_0)).trans hx247_0
                                    replace p247 := eq_true p247
                                    replace q247 := eq_true q247
                                    refine start_ (n := 16) (S := fun w' => w'.cell? (ad247.add (x7_1).toNat) = some (.int .i64 (rd l1 x7_1))) (ds := []) #[false, false, false, false, false, false, false, false, false, false, false, false, false, false, false, false] (by kernel_rfl) rfl rfl (((HB.out.cell (World.block_lt_of_cell? w _ hw247_0)).trans hw247_0)) (fun hHeld => ?_); refine with_tabW correctorlaw6_ScanTexts.tab9 correctorlaw6_ScanTexts.bits9 (fun HT_ HW_ => ?_)
                                    generalize wr.drew = w23 at HB hx247_0 hHeld ⊢
                                    refine pure_ (i := 0) (N := some 28) (v := ?_) (a' := ?_) #[true, false, false, false, false, false, false, false, false, false, false, false, false, false, false, false] rfl rfl (any_of HT_.out (by kernel_rfl)) (fun _ _ _ h => h) (Or.inl ⟨by rfl, ?_⟩) ?_ ?_
                                    rotate_left
                                    · intro w'
                                      go_simp
                                      with_reducible rfl
                                    rotate_left
                                    · simp only [Act.put, List.setIfInBounds_toArray, List.set_cons_zero, List.set_cons_succ, i64_w, i32_w]
                                      rfl
                                    refine pure_ (i := 1) (N := some 29) (v := ?_) (a' := ?_) #[true, true, false, false, false, false, false, false, false, false, false, false, false, false, false, false] rfl rfl (any_of HT_.out (by kernel_rfl)) (fun _ _ _ h => h) (Or.inl ⟨by rfl, ?_⟩) ?_ ?_
                                    rotate_left
                                    · intro w'
                                      go_simp
                                      with_reducible rfl
                                    rotate_left
                                    · simp only [Act.put, List.setIfInBounds_toArray, List.set_cons_zero, List.set_cons_succ, i64_w, i32_w]
                                      rfl
                                    refine pure_ (i := 2) (N := some 30) (v := ?_) (a' := ?_) #[true, true, true, false, false, false, false, false, false, false, false, false, false, false, false, false] rfl rfl (any_of HT_.out (by kernel_rfl)) (fun _ _ _ h => h) (Or.inl ⟨by rfl, ?_⟩) ?_ ?_
                                    rotate_left
                                    · intro w'
                                      go_simp
                                      with_reducible rfl
                                    rotate_left
                                    · simp only [Act.put, List.setIfInBounds_toArray, List.set_cons_zero, List.set_cons_succ, i64_w, i32_w]
                                      rfl
                                    refine pure_ (i := 3) (N := some 31) (v := ?_) (a' := ?_) #[true, true, true, true, false, false, false, false, false, false, false, false, false, false, false, false] rfl rfl (any_of HT_.out (by kernel_rfl)) (fun _ _ _ h => h) (Or.inl ⟨by rfl, ?_⟩) ?_ ?_
                                    rotate_left
                                    · intro w'
                                      go_simp
                                      with_reducible rfl
                                    rotate_left
                                    · simp only [Act.put, List.setIfInBounds_toArray, List.set_cons_zero, List.set_cons_succ, i64_w, i32_w]
                                      rfl
                                    refine pure_ (i := 4) (N := some 32) (v := ?_) (a' := ?_) #[true, true, true, true, true, false, false, false, false, false, false, false, false, false, false, false] rfl rfl (any_of HT_.out (by kernel_rfl)) (fun _ _ _ h => h) (Or.inl ⟨by rfl, ?_⟩) ?_ ?_
                                    rotate_left
                                    · intro w'
                                      go_simp
                                      with_reducible rfl
                                    rotate_left
                                    · simp only [Act.put, List.setIfInBounds_toArray, List.set_cons_zero, List.set_cons_succ, i64_w, i32_w]
                                      rfl
                                    refine pure_ (i := 6) (N := some 34) (v := ?_) (a' := ?_) #[true, true, true, true, true, false, true, false, false, false, false, false, false, false, false, false] rfl rfl (any_of HT_.out (by kernel_rfl)) (fun _ _ _ h => h) (Or.inl ⟨by rfl, ?_⟩) ?_ ?_
                                    rotate_left
                                    · intro w'
                                      go_simp
                                      with_reducible rfl
                                    rotate_left
                                    · simp only [Act.put, List.setIfInBounds_toArray, List.set_cons_zero, List.set_cons_succ, i64_w, i32_w]
                                      rfl
                                    refine pure_ (i := 7) (N := some 35) (v := ?_) (a' := ?_) #[true, true, true, true, true, false, true, true, false, false, false, false, false, false, false, false] rfl rfl (any_of HT_.out (by kernel_rfl)) (fun _ _ _ h => h) (Or.inl ⟨by rfl, ?_⟩) ?_ ?_
                                    rotate_left
                                    · intro w'
                                      go_simp
                                      with_reducible rfl
                                    rotate_left
                                    · simp only [Act.put, List.setIfInBounds_toArray, List.set_cons_zero, List.set_cons_succ, i64_w, i32_w]
                                      rfl
                                    refine pure_ (i := 8) (N := some 36) (v := ?_) (a' := ?_) #[true, true, true, true, true, false, true, true, true, false, false, false, false, false, false, false] rfl rfl (any_of HT_.out (by kernel_rfl)) (fun _ _ _ h => h) (Or.inl ⟨by rfl, ?_⟩) ?_ ?_
                                    rotate_left
                                    · intro w'
                                      go_simp
                                      with_reducible rfl
                                    rotate_left
                                    · simp only [Act.put, List.setIfInBounds_toArray, List.set_cons_zero, List.set_cons_succ, i64_w, i32_w]
                                      rfl
                                    refine take_ (i := 9) (N := some 37) (v := ?_) (a' := ?_) #[true, true, true, true, true, false, true, true, true, true, false, false, false, false, false, false] rfl rfl (take_ofW HT_.out HW_.out (by kernel_rfl)) (fun _ _ _ h => h) (Or.inl ⟨by rfl, ?_⟩) hHeld ?_ ?_
                                    rotate_left
                                    · intro w' s0
                                      go_simp
                                      with_reducible rfl
                                    rotate_left
                                    · simp only [Act.put, List.setIfInBounds_toArray, List.set_cons_zero, List.set_cons_succ, i64_w, i32_w]
                                      rfl
                                    refine join_ (σ := Value × Addr) 5 #[true, true, true, true, true, true, true, true, true, true, true, false, false, false, false, false] (fun s_ => [(33, s_.1), (38, .int .i64 t248)]) (fun s_ w' => (w'.cell? (ad247.add (x7_1).toNat) = some (.int .i64 (rd l1 x7_1))) ∧ (Kd.R Kd.string 9 w' w.heap.size (fun _ => True) s_.1 y244) ∧ (∃ c_, (s_.1 : Value) = .slice (some s_.2) y244.length c_) ∧ (Below w.heap.size w w')) ?_ ?_
                                    rotate_left
                                    · intro hCont
                                      refine two_ (i := 5) (j := 10) (Ni := some 33) (Nj := some 38) #[true, true, true, true, true, true, true, true, true, true, false, false, false, false, false, false] #[true, true, true, true, true, false, true, true, true, true, true, false, false, false, false, false] rfl rfl rfl rfl (two_of HT_.out (by kernel_rfl)) (by decide) (by decide) (fun K hK => ?_) (fun K hK => ?_)
                                      · skip
                                        refine Kd.R_lit_step Kd.string _ 9 ?hg (N := 33) ?hd (xs := ([(⟨#[45, 32, 97]⟩ : ByteArray), (⟨#[91]⟩ : ByteArray), (⟨#[34, 111, 112, 101, 110]⟩ : ByteArray), (⟨#[35, 32, 110, 111, 32, 99, 111, 109, 109, 101, 110, 116]⟩ : ByteArray), (⟨#[45, 45, 45]⟩ : ByteArray), (⟨#[38, 120]⟩ : ByteArray)] : List ByteArray)) (inner := [.string (⟨#[45, 32, 97]⟩ : ByteArray), .string (⟨#[91]⟩ : ByteArray), .string (⟨#[34, 111, 112, 101, 110]⟩ : ByteArray), .string (⟨#[35, 32, 110, 111, 32, 99, 111, 109, 109, 101, 110, 116]⟩ : ByteArray), .string (⟨#[45, 45, 45]⟩ : ByteArray), .string (⟨#[38, 120]⟩ : ByteArray)]) (ok := fun _ => True) (okp := fun _ => True) ?hr ?hp (fun _ hk => hk) trivial (Below.refl _ _) (Nat.le_refl _) (by simp) ?_; (case hd => rfl); (case hg => rfl); (case hr => first | (go_simp; done) | (go_simp; rfl)); (case hp => exact (Reps.one (show Kd.M Kd.string _ _ _ (⟨#[45, 32, 97]⟩ : ByteArray) [.string (⟨#[45, 32, 97]⟩ : ByteArray)] from rfl) (Reps.one (show Kd.M Kd.string _ _ _ (⟨#[91]⟩ : ByteArray) [.string (⟨#[91]⟩ : ByteArray)] from rfl) (Reps.one (show Kd.M Kd.string _ _ _ (⟨#[34, 111, 112, 101, 110]⟩ : ByteArray) [.string (⟨#[34, 111, 112, 101, 110]⟩ : ByteArray)] from rfl) (Reps.one (show Kd.M Kd.string _ _ _ (⟨#[35, 32, 110, 111, 32, 99, 111, 109, 109, 101, 110, 116]⟩ : ByteArray) [.string (⟨#[35, 32, 110, 111, 32, 99, 111, 109, 109, 101, 110, 116]⟩ : ByteArray)] from rfl) (Reps.one (show Kd.M Kd.string _ _ _ (⟨#[45, 45, 45]⟩ : ByteArray) [.string (⟨#[45, 45, 45]⟩ : ByteArray)] from rfl) (Reps.one (show Kd.M Kd.string _ _ _ (⟨#[38, 120]⟩ : ByteArray) [.string (⟨#[38, 120]⟩ : ByteArray)] from rfl) (Reps.none _ _))))))))
                                        intro v245 w24 ho25 hb hg_ hnew_
                                        clear hg_ hnew_
                                        (first | rw [← Ny244.out] at ho25 | (simp only [Int.reduceToNat] at ho25; rw [← Ny244.out] at ho25))
                                        have n0_ := Aside0.mk (Kd.R_lower ho25 (below_size (by repeat (first | (with_reducible first | exact HB.out | apply below_alloc | apply pw_below_drewN | apply below_drew1) | exact HB.out))))
                                        have n1_ := Aside0.mk (below_step (by repeat (first | (with_reducible first | exact HB.out | apply below_alloc | apply pw_below_drewN | apply below_drew1) | exact HB.out)) hb)
                                        clear HB
                                        have HO246 := n0_
                                        have HB := n1_
                                        clear n0_ n1_
                                        clear hb ho25
                                        obtain ⟨Ao26, co26, eo26⟩ := Kd.R_slice HO246.out
                                        subst eo26
                                        obtain ⟨ado26, fo26, _⟩ := Kd.at_string (Kd.R_reads' HO246.out).2.2 0 (by decide) (by rw [Ny244.out]; simp)
                                        cases fo26
                                        refine hK.out _ _ (((HB.out.cell (World.block_lt_of_cell? w _ hw247_0)).trans hw247_0)) (fun hHeld => ?_)
                                        clear hK K
                                        refine norm_ (a' := ?_) ?_ ?_
                                        rotate_left
                                        · show Act.put _ (some 33) _ = _
                                          simp only [Act.put, List.setIfInBounds_toArray, List.set_cons_zero, List.set_cons_succ, i64_w, i32_w]
                                          rfl
                                        refine one_ (i := 10) (N := some 38) #[true, true, true, true, true, true, true, true, true, true, true, false, false, false, false, false] rfl rfl (one_of HT_.out (by kernel_rfl)) (by decide) (fun K hK => ?_)
                                        refine goes_ Try.func16 (by kernel_rfl) rfl #[.int .i64 (rd l1 x7_1), .int .i64 6] (by rfl) rfl rfl (by (try simp only [List.map_toArray, List.map_cons, List.map_nil]); first | done | rfl | (simp only [List.length_drop, List.length_take]; rfl) | (simp only [ByteArray.size_extract, Nat.min_self]; done) | (simp only [ByteArray.size_extract, Nat.min_self]; rfl)) ?_
                                        with_reducible refine (correctorlaw6_within.calls (rd l1 x7_1) 6 t248 _ A18.out).mono ?_
                                        rintro e w' ⟨rfl, ⟨nd, rfl⟩⟩
                                        refine ⟨_, rfl, ?_⟩
                                        refine hK.out _ _ (((HB.out.cell (World.block_lt_of_cell? w _ hw247_0)).trans hw247_0)) (fun hHeld => ?_)
                                        clear hK K
                                        refine norm_ (a' := ?_) ?_ ?_
                                        rotate_left
                                        · show Act.put _ (some 38) _ = _
                                          simp only [Act.put, List.setIfInBounds_toArray, List.set_cons_zero, List.set_cons_succ, i64_w, i32_w]
                                          rfl
                                        exact norm_ (by simp only [putAll, Act.put, List.setIfInBounds_toArray, List.set_cons_zero, List.set_cons_succ]) (hCont (.slice (some ado26) y244.length co26, ado26) _ ⟨hHeld, (by (with_reducible repeat (first | apply Kd.R_alloc | apply Kd.R_drewN | apply Kd.R_drew)); exact HO246.out), ⟨_, rfl⟩, (by repeat (first | (with_reducible first | exact HB.out | apply below_alloc | apply pw_below_drewN | apply below_drew1) | exact HB.out))⟩)
                                      · skip
                                        refine goes_ Try.func16 (by kernel_rfl) rfl #[.int .i64 (rd l1 x7_1), .int .i64 6] (by rfl) rfl rfl (by (try simp only [List.map_toArray, List.map_cons, List.map_nil]); first | done | rfl | (simp only [List.length_drop, List.length_take]; rfl) | (simp only [ByteArray.size_extract, Nat.min_self]; done) | (simp only [ByteArray.size_extract, Nat.min_self]; rfl)) ?_
                                        with_reducible refine (correctorlaw6_within.calls (rd l1 x7_1) 6 t248 _ A18.out).mono ?_
                                        rintro e w' ⟨rfl, ⟨nd, rfl⟩⟩
                                        refine ⟨_, rfl, ?_⟩
                                        refine hK.out _ _ (((HB.out.cell (World.block_lt_of_cell? w _ hw247_0)).trans hw247_0)) (fun hHeld => ?_)
                                        clear hK K
                                        refine norm_ (a' := ?_) ?_ ?_
                                        rotate_left
                                        · show Act.put _ (some 38) _ = _
                                          simp only [Act.put, List.setIfInBounds_toArray, List.set_cons_zero, List.set_cons_succ, i64_w, i32_w]
                                          rfl
                                        refine one_ (i := 5) (N := some 33) #[true, true, true, true, true, true, true, true, true, true, true, false, false, false, false, false] rfl rfl (one_of HT_.out (by kernel_rfl)) (by decide) (fun K hK => ?_)
                                        refine Kd.R_lit_step Kd.string _ 9 ?hg (N := 33) ?hd (xs := ([(⟨#[45, 32, 97]⟩ : ByteArray), (⟨#[91]⟩ : ByteArray), (⟨#[34, 111, 112, 101, 110]⟩ : ByteArray), (⟨#[35, 32, 110, 111, 32, 99, 111, 109, 109, 101, 110, 116]⟩ : ByteArray), (⟨#[45, 45, 45]⟩ : ByteArray), (⟨#[38, 120]⟩ : ByteArray)] : List ByteArray)) (inner := [.string (⟨#[45, 32, 97]⟩ : ByteArray), .string (⟨#[91]⟩ : ByteArray), .string (⟨#[34, 111, 112, 101, 110]⟩ : ByteArray), .string (⟨#[35, 32, 110, 111, 32, 99, 111, 109, 109, 101, 110, 116]⟩ : ByteArray), .string (⟨#[45, 45, 45]⟩ : ByteArray), .string (⟨#[38, 120]⟩ : ByteArray)]) (ok := fun _ => True) (okp := fun _ => True) ?hr ?hp (fun _ hk => hk) trivial (Below.refl _ _) (Nat.le_refl _) (by simp) ?_; (case hd => rfl); (case hg => rfl); (case hr => first | (go_simp; done) | (go_simp; rfl)); (case hp => exact (Reps.one (show Kd.M Kd.string _ _ _ (⟨#[45, 32, 97]⟩ : ByteArray) [.string (⟨#[45, 32, 97]⟩ : ByteArray)] from rfl) (Reps.one (show Kd.M Kd.string _ _ _ (⟨#[91]⟩ : ByteArray) [.string (⟨#[91]⟩ : ByteArray)] from rfl) (Reps.one (show Kd.M Kd.string _ _ _ (⟨#[34, 111, 112, 101, 110]⟩ : ByteArray) [.string (⟨#[34, 111, 112, 101, 110]⟩ : ByteArray)] from rfl) (Reps.one (show Kd.M Kd.string _ _ _ (⟨#[35, 32, 110, 111, 32, 99, 111, 109, 109, 101, 110, 116]⟩ : ByteArray) [.string (⟨#[35, 32, 110, 111, 32, 99, 111, 109, 109, 101, 110, 116]⟩ : ByteArray)] from rfl) (Reps.one (show Kd.M Kd.string _ _ _ (⟨#[45, 45, 45]⟩ : ByteArray) [.string (⟨#[45, 45, 45]⟩ : ByteArray)] from rfl) (Reps.one (show Kd.M Kd.string _ _ _ (⟨#[38, 120]⟩ : ByteArray) [.string (⟨#[38, 120]⟩ : ByteArray)] from rfl) (Reps.none _ _))))))))
                                        intro v245 w24 ho25 hb hg_ hnew_
                                        clear hg_ hnew_
                                        (first | rw [← Ny244.out] at ho25 | (simp only [Int.reduceToNat] at ho25; rw [← Ny244.out] at ho25))
                                        have n0_ := Aside0.mk (Kd.R_lower ho25 (below_size (by repeat (first | (with_reducible first | exact HB.out | apply below_alloc | apply pw_below_drewN | apply below_drew1) | exact HB.out))))
                                        have n1_ := Aside0.mk (below_step (by repeat (first | (with_reducible first | exact HB.out | apply below_alloc | apply pw_below_drewN | apply below_drew1) | exact HB.out)) hb)
                                        clear HB
                                        have HO246 := n0_
                                        have HB := n1_
                                        clear n0_ n1_
                                        clear hb ho25
                                        obtain ⟨Ao26, co26, eo26⟩ := Kd.R_slice HO246.out
                                        subst eo26
                                        obtain ⟨ado26, fo26, _⟩ := Kd.at_string (Kd.R_reads' HO246.out).2.2 0 (by decide) (by rw [Ny244.out]; simp)
                                        cases fo26
                                        refine hK.out _ _ (((HB.out.cell (World.block_lt_of_cell? w _ hw247_0)).trans hw247_0)) (fun hHeld => ?_)
                                        clear hK K
                                        refine norm_ (a' := ?_) ?_ ?_
                                        rotate_left
                                        · show Act.put _ (some 33) _ = _
                                          simp only [Act.put, List.setIfInBounds_toArray, List.set_cons_zero, List.set_cons_succ, i64_w, i32_w]
                                          rfl
                                        exact norm_ (by simp only [putAll, Act.put, List.setIfInBounds_toArray, List.set_cons_zero, List.set_cons_succ]) (hCont (.slice (some ado26) y244.length co26, ado26) _ ⟨hHeld, (by (with_reducible repeat (first | apply Kd.R_alloc | apply Kd.R_drewN | apply Kd.R_drew)); exact HO246.out), ⟨_, rfl⟩, (by repeat (first | (with_reducible first | exact HB.out | apply below_alloc | apply pw_below_drewN | apply below_drew1) | exact HB.out))⟩)
                                    rintro ⟨v245, adz_v245⟩ w27 ⟨hS_, h0_, h1_, h2_⟩
                                    have n0_ : Aside0 (Kd.R Kd.string 9 w27 w.heap.size (fun _ => True) v245 y244) := ⟨h0_⟩
                                    have n1_ : Aside0 (∃ c_, (v245 : Value) = .slice (some adz_v245) y244.length c_) := ⟨h1_⟩
                                    have n2_ : Aside0 (Below w.heap.size w w27) := ⟨h2_⟩
                                    clear HB
                                    clear h0_ h1_ h2_
                                    have HO246 := n0_
                                    have HA_HO246 := n1_
                                    have HB := n2_
                                    clear n0_ n1_ n2_
                                    have hHeld : w27.cell? (ad247.add (x7_1).toNat) = some (.int .i64 (rd l1 x7_1)) := hS_
                                    obtain ⟨co28, eo28⟩ := HA_HO246.out
                                    clear HA_HO246
                                    subst eo28
                                    refine norm_ (a' := ?_) ?_ ?_
                                    rotate_left
                                    · simp only [putAll, Act.put, List.setIfInBounds_toArray, List.set_cons_zero, List.set_cons_succ]
                                      rfl
                                    refine pure_ (i := 11) (N := some 39) (v := ?_) (a' := ?_) #[true, true, true, true, true, true, true, true, true, true, true, true, false, false, false, false] rfl rfl (any_of HT_.out (by kernel_rfl)) (fun _ _ _ h => h) (Or.inl ⟨by rfl, ?_⟩) ?_ ?_
                                    rotate_left
                                    · intro w'
                                      go_simp
                                      with_reducible rfl
                                    rotate_left
                                    · simp only [Act.put, List.setIfInBounds_toArray, List.set_cons_zero, List.set_cons_succ, i64_w, i32_w]
                                      rfl
                                    refine one_ (i := 12) (N := some 40) #[true, true, true, true, true, true, true, true, true, true, true, true, true, false, false, false] rfl rfl (one_of HT_.out (by kernel_rfl)) (by decide) (fun K hK => ?_)
                                    (have p249 : 0 ≤ (t248 : Int) := of_decide_eq_true (by first | (with_reducible assumption) | assumption); have q249 : t248 < (y244.length : Int) := of_decide_eq_true (by first | (with_reducible assumption) | assumption); obtain ⟨ad249, e249, hx249_0⟩ := Kd.at_string (Kd.R_reads' HO246.out).2.2 t248 p249 q249; obtain rfl : adz_v245 = ad249 := (by injection e249))
                                    refine value_ (w1 := ?_) (v := ?_) (by rfl) rfl ?_ ?_
                                    rotate_left 2
                                    · go_simp
                                      constructor
                                      · rfl
                                      · rfl
                                    clear hx249_0
                                    refine hK.out _ _ (((HB.out.cell (World.block_lt_of_cell? w _ hw247_0)).trans hw247_0)) (fun hHeld => ?_)
                                    clear hK K
                                    refine norm_ (a' := ?_) ?_ ?_
                                    rotate_left
                                    · show Act.put _ (some 40) _ = _
                                      simp only [Act.put, List.setIfInBounds_toArray, List.set_cons_zero, List.set_cons_succ, i64_w, i32_w]
                                      rfl
                                    refine pure_ (i := 13) (N := some 41) (v := ?_) (a' := ?_) #[true, true, true, true, true, true, true, true, true, true, true, true, true, true, false, false] rfl rfl (any_of HT_.out (by kernel_rfl)) (fun _ _ _ h => h) (Or.inl ⟨by rfl, ?_⟩) ?_ ?_
                                    rotate_left
                                    · intro w'
                                      go_simp
                                      with_reducible rfl
                                    rotate_left
                                    · simp only [Act.put, List.setIfInBounds_toArray, List.set_cons_zero, List.set_cons_succ, i64_w, i32_w]
                                      rfl
                                    refine pure_ (i := 14) (N := some 42) (v := ?_) (a' := ?_) #[true, true, true, true, true, true, true, true, true, true, true, true, true, true, true, false] rfl rfl (any_of HT_.out (by kernel_rfl)) (fun _ _ _ h => h) (Or.inl ⟨by rfl, ?_⟩) ?_ ?_
                                    rotate_left
                                    · intro w'
                                      go_simp
                                      with_reducible rfl
                                    rotate_left
                                    · simp only [Act.put, List.setIfInBounds_toArray, List.set_cons_zero, List.set_cons_succ, i64_w, i32_w]
                                      rfl
                                    refine pure_ (i := 15) (N := some 5) (v := ?_) (a' := ?_) #[true, true, true, true, true, true, true, true, true, true, true, true, true, true, true, true] rfl rfl (any_of HT_.out (by kernel_rfl)) (fun _ _ _ h => h) (Or.inl ⟨by rfl, ?_⟩) ?_ ?_
                                    rotate_left
                                    · intro w'
                                      go_simp
                                      with_reducible rfl
                                    rotate_left
                                    · simp only [Act.put, List.setIfInBounds_toArray, List.set_cons_zero, List.set_cons_succ, i64_w, i32_w]
                                      rfl
                                    refine done_ (done_of HT_.out (by kernel_rfl)) ?_
                                    try go_wp2
                                    go_roundg k1
                                    case measure => have := HK1.out; omega
                                    case rel => exact ⟨(((x5_1 ++ ((⟨#[32, 32, 32, 32, 32, 32]⟩ : ByteArray).extract 0 ((ji13) : Int).toNat)) ++ (rdOf ByteArray.empty y244 t248)) ++ (⟨#[10]⟩ : ByteArray)), (wrap64 (x6_1 + 1)), (wrap64 (x7_1 + 1)), (by first | rfl | (simp; done) | (simp only [← hji13] <;> (first | rfl | simp)) | (simp [*]; done)), (by first | rfl | (simp; done) | (simp [*]; done)), (by first | rfl | (simp; done) | (simp [*]; done)), (by first | exact H' | (simp only [hji13]; exact H') | (rw [hji13]; exact H')), ⟨by have := HK1.out; omega⟩, ⟨by repeat (first | (with_reducible first | exact HB.out | apply below_alloc | apply pw_below_drewN | apply below_drew1) | exact HB.out)⟩⟩
                                  · rw [if_neg c22] at H
                                    exact absurd H (by simp)
                                · rw [if_neg c21] at H
                                  exact absurd H (by simp)
                              · rw [if_neg c20] at H
                                exact absurd H (by simp)
                            · rw [if_neg c19] at H
                              exact absurd H (by simp)
                          · rw [if_neg c17] at H
                            exact absurd H (by simp)
                        · rw [if_neg c16] at H
                          exact absurd H (by simp)
                      · rw [if_neg c15] at H
                        exact absurd H (by simp)
                    · rw [if_neg c14] at H
                      exact absurd H (by simp)
                  · rw [if_neg c12] at H
                    have c12b0 : decide (x7_1 < 10) = false := decide_eq_false c12
                    clear c12
                    have H' := Aside0.mk H
                    clear H
                    go_wp2
                    go_meet
                    case rel => exact ⟨_, (x5_1), (x6_1), (by first | rfl | (simp; done) | (simp [*]; done)), (by first | rfl | (simp; done) | (simp [*]; done)), H', ⟨by have := HK1.out; first | omega | exact Nat.le_refl _⟩, ⟨by repeat (first | (with_reducible first | exact HB.out | apply below_alloc | apply pw_below_drewN | apply below_drew1) | exact HB.out)⟩⟩
                · rw [if_neg c11] at H
                  have c11b0 : decide (x7_1 < (l1.length : Int)) = false := decide_eq_false c11
                  clear c11
                  (first | rw [c11b0] | (simp only [i64_w, i32_w]; rw [c11b0]) | rw [c11b1] | skip)
                  have H' := Aside0.mk H
                  clear H
                  go_wp2
                  go_meet
                  case rel => exact ⟨_, (x5_1), (x6_1), (by first | rfl | (simp; done) | (simp [*]; done)), (by first | rfl | (simp; done) | (simp [*]; done)), H', ⟨by have := HK1.out; first | omega | exact Nat.le_refl _⟩, ⟨by repeat (first | (with_reducible first | exact HB.out | apply below_alloc | apply pw_below_drewN | apply below_drew1) | exact HB.out)⟩⟩
          case rest =>
            clear HC9
            try clear c1
            try clear c2
            try clear p2
            try clear q2
            try clear hx2
            try clear qi2
            try clear c4
            try clear c6
            try clear c6b0
            try clear c6b1
            try clear p6
            try clear c7
            try clear c7b0
            try clear c7b1
            try clear c8
            try clear c8b0
            try clear c8b1
            try clear c8b2
            try clear c10
            try clear c11
            try clear c11b0
            try clear c11b1
            try clear c12
            try clear c12b0
            try clear c14
            try clear c14b0
            try clear c14b1
            try clear c15
            try clear c15b0
            try clear c15b1
            try clear c16
            try clear c16b0
            try clear c16b1
            try clear c16b2
            try clear c17
            try clear c17b0
            try clear c19
            try clear c19b0
            try clear c20
            try clear c20b0
            try clear c21
            try clear c21b0
            try clear c21b1
            try clear c21b2
            try clear c22
            try clear c22b0
            try clear c22b1
            try clear c22b2
            try clear p24
            try clear q24
            try clear hx24
            try clear qi24
            try clear hx247_0
            try clear hx249_0
            try clear p2
            try clear p247
            try clear p249
            try clear q247
            try clear q249
            obtain ⟨kq, x5_8, x6_8, rfl, rfl, HA, HJ8, HB⟩ := hcut
            cases kq with
            | zero => exact absurd HA.out (by simp [correctorlaw6_ScanTexts.j1])
            | succ kj8 =>
              have H := HA.out
              clear HA
              simp only [correctorlaw6_ScanTexts.j1] at H
              by_cases c29 : 0 ≤ t243
              · rw [if_pos c29] at H
                have c29b0 := eq_true c29
                have c29b1 : decide (0 ≤ t243) = true := decide_eq_true c29
                clear c29
                by_cases c30 : t243 ≤ 5
                · rw [if_pos c30] at H
                  have c30b0 := eq_true c30
                  have c30b1 : decide (t243 ≤ 5) = true := decide_eq_true c30
                  clear c30
                  by_cases c31 : x5_8.size + ((⟨#[32, 32, 32, 32, 32]⟩ : ByteArray).extract 0 (t243 : Int).toNat).size ≤ 9223372036854775807
                  · rw [if_pos c31] at H
                    (try (have c31v : (9223372036854775807 < x5_8.size + t243.toNat) = False := eq_false (by have h_ := c31; simp only [ByteArray.size_append, ByteArray.size_extract] at h_; have e_0 : t243 ≤ 5 := of_eq_true (by assumption); have z_0 : (⟨#[32, 32, 32, 32, 32]⟩ : ByteArray).size = 5 := rfl; have y_0 : (⟨#[32, 32, 32, 32, 32]⟩ : ByteArray).size = 5 := rfl; omega)))
                    have c31b0 := eq_true c31
                    have c31b1 : decide (x5_8.size + ((⟨#[32, 32, 32, 32, 32]⟩ : ByteArray).extract 0 (t243 : Int).toNat).size ≤ 9223372036854775807) = true := decide_eq_true c31
                    try have c31b2 : (9223372036854775807 < x5_8.size + ((⟨#[32, 32, 32, 32, 32]⟩ : ByteArray).extract 0 (t243 : Int).toNat).size) = False := eq_false (Nat.not_lt.2 c31)
                    by_cases c32 : (x5_8 ++ ((⟨#[32, 32, 32, 32, 32]⟩ : ByteArray).extract 0 (t243 : Int).toNat)).size + 3 ≤ 9223372036854775807
                    · rw [if_pos c32] at H
                      (try (have c32v : (9223372036854775807 < x5_8.size + t243.toNat + 3) = False := eq_false (by have h_ := c32; simp only [ByteArray.size_append, ByteArray.size_extract] at h_; have e_0 : t243 ≤ 5 := of_eq_true (by assumption); have z_0 : (⟨#[32, 32, 32, 32, 32]⟩ : ByteArray).size = 5 := rfl; have y_0 : (⟨#[32, 32, 32, 32, 32]⟩ : ByteArray).size = 5 := rfl; omega)))
                      have c32b0 := eq_true c32
                      have c32b1 : decide ((x5_8 ++ ((⟨#[32, 32, 32, 32, 32]⟩ : ByteArray).extract 0 (t243 : Int).toNat)).size + 3 ≤ 9223372036854775807) = true := decide_eq_true c32
                      try have c32b2 : (9223372036854775807 < (x5_8 ++ ((⟨#[32, 32, 32, 32, 32]⟩ : ByteArray).extract 0 (t243 : Int).toNat)).size + 3) = False := eq_false (Nat.not_lt.2 c32)
                      by_cases c33 : ((x5_8 ++ ((⟨#[32, 32, 32, 32, 32]⟩ : ByteArray).extract 0 (t243 : Int).toNat)) ++ (⟨#[101, 110, 100]⟩ : ByteArray)).size ≤ 9223372036854775807
                      · rw [if_pos c33] at H
                        (try (have c33v : (9223372036854775807 < x5_8.size + t243.toNat + 3) = False := eq_false (by have h_ := c33; simp only [ByteArray.size_append, ByteArray.size_extract] at h_; have e_0 : t243 ≤ 5 := of_eq_true (by assumption); have z_0 : (⟨#[32, 32, 32, 32, 32]⟩ : ByteArray).size = 5 := rfl; have y_0 : (⟨#[32, 32, 32, 32, 32]⟩ : ByteArray).size = 5 := rfl; have y_1 : (⟨#[101, 110, 100]⟩ : ByteArray).size = 3 := rfl; omega)))
                        have c33b0 := eq_true c33
                        have c33b1 : decide (((x5_8 ++ ((⟨#[32, 32, 32, 32, 32]⟩ : ByteArray).extract 0 (t243 : Int).toNat)) ++ (⟨#[101, 110, 100]⟩ : ByteArray)).size ≤ 9223372036854775807) = true := decide_eq_true c33
                        try have c33b2 : (9223372036854775807 < ((x5_8 ++ ((⟨#[32, 32, 32, 32, 32]⟩ : ByteArray).extract 0 (t243 : Int).toNat)) ++ (⟨#[101, 110, 100]⟩ : ByteArray)).size) = False := eq_false (Nat.not_lt.2 c33)
                        obtain ⟨y250, hy250⟩ : ∃ y_ : List Int, y_ = (bytesOf ((x5_8 ++ ((⟨#[32, 32, 32, 32, 32]⟩ : ByteArray).extract 0 (t243 : Int).toNat)) ++ (⟨#[101, 110, 100]⟩ : ByteArray))) := ⟨_, rfl⟩
                        replace H : ((scan_Tokens.f y250).bind fun t253 => (correctorlaw6_ScanTexts.l1 kj8 ((x5_8 ++ ((⟨#[32, 32, 32, 32, 32]⟩ : ByteArray).extract 0 (t243 : Int).toNat)) ++ (⟨#[101, 110, 100]⟩ : ByteArray)) x6_8 t253 0 0)) = some r := by first | (rw [hy250]; with_reducible exact H) | (have H2_ := (Option.bind_some _ _).symm.trans H; rw [hy250]; with_reducible exact H2_) | (have H2_ := (Option.bind_some _ _).symm.trans H; with_reducible exact H2_) | with_reducible exact H | (rw [hy250]; exact H) | exact H
                        have Ny250 := Aside0.mk hy250
                        clear hy250
                        replace H := Option.bind_eq_some_iff.mp H
                        obtain ⟨t253, A340, H⟩ := H
                        replace H : (correctorlaw6_ScanTexts.l1 kj8 ((x5_8 ++ ((⟨#[32, 32, 32, 32, 32]⟩ : ByteArray).extract 0 (t243 : Int).toNat)) ++ (⟨#[101, 110, 100]⟩ : ByteArray)) x6_8 t253 0 0) = some r := H
                        have A34 := Aside0.mk A340
                        clear A340
                        have H' := Aside0.mk H
                        clear H
                        go_wp2_with (first | ((with_reducible refine gate_dst (N := 51) rfl ?_); (try (refine gate_guard (by rfl) ?_; dsimp only)); refine bytes_event ?hg (N := 51) ?hd (src := 9) (dst := 23) (e := 5) (x := .tmp 50) (s := ((x5_8 ++ ((⟨#[32, 32, 32, 32, 32]⟩ : ByteArray).extract 0 (t243 : Int).toNat)) ++ (⟨#[101, 110, 100]⟩ : ByteArray))) ?ho ?hx Try.underlying9 Try.underlying23 Try.underlying5 (of_decide_eq_true (by first | (with_reducible assumption) | assumption)) ?_; (case hd => rfl); (case hg => rfl); (case ho => rfl); (case hx => first | rfl | (go_simp; done) | (go_simp; rfl)); intro v251 w35 ho36 hb; rw [← Ny250.out] at ho36; have n0_ := Aside0.mk (Kd.V_lower (Kd.V_mono (ok' := fun k_ => True) ho36 (fun k_ hk_ => trivial)) (below_size (by repeat (first | (with_reducible first | exact HB.out | apply below_alloc | apply pw_below_drewN | apply below_drew1) | exact HB.out)))); have n1_ := Aside0.mk (below_step (by repeat (first | (with_reducible first | exact HB.out | apply below_alloc | apply pw_below_drewN | apply below_drew1) | exact HB.out)) hb); clear HB; have HO252 := n0_; have HB := n1_; clear n0_ n1_; clear hb ho36; obtain ⟨Ao37, co37, eo37⟩ := Kd.V_slice HO252.out; subst eo37) | ((with_reducible refine gate_callee (f := 13) rfl ?_); refine goesL_ (some 52) rfl rfl Try.func13 (by kernel_rfl) rfl #[.slice Ao37 y250.length co37] rfl (by (try simp only [List.map_toArray, List.map_cons, List.map_nil]); first | done | rfl | (simp only [List.length_drop, List.length_take]; rfl) | (simp only [ByteArray.size_extract, Nat.min_self]; done) | (simp only [ByteArray.size_extract, Nat.min_self]; rfl)) ?_; (with_reducible refine (scan_Tokens.calls _ _ y250 t253 _ ?side1 ?side2 A34.out).mono ?_); (case side1 => repeat (first | exact (Kd.V_reads' HO252.out).2.2 | (with_reducible refine Kd.C_alloc ?_ _) | (with_reducible refine Kd.C_drewN ?_ _) | (with_reducible refine Kd.C_drew ?_))); (case side2 => exact (Kd.V_reads' HO252.out).2.1); rintro e w38 ⟨v254, rfl, ho0, hb⟩; refine ⟨_, rfl, ?_⟩; have n0_ := Aside0.mk (Kd.V_elder' (by (with_reducible repeat (first | apply Kd.V_alloc | apply Kd.V_drewN | apply Kd.V_drew)); exact HO252.out) (Kd.R_base ho0) hb); have n1_ := Aside0.mk (Kd.R_lower ho0 (below_size (by repeat (first | (with_reducible first | exact HB.out | apply below_alloc | apply pw_below_drewN | apply below_drew1) | exact HB.out)))); have n2_ := Aside0.mk (below_step (by repeat (first | (with_reducible first | exact HB.out | apply below_alloc | apply pw_below_drewN | apply below_drew1) | exact HB.out)) hb); clear HO252; clear HB; have HO252 := n0_; have HO255 := n1_; have HB := n2_; clear n0_ n1_ n2_; (try clear hb); (try clear hb2); (try clear hk); (try clear hi); (try clear ho0)))
                        go_loopg [9, 10] kj8 (fun kq v9 v10 w' => ∃ (x9_2 : Int) (x10_2 : Int), v9 = .int .i64 x9_2 ∧ v10 = .int .i64 x10_2 ∧ Aside0 (correctorlaw6_ScanTexts.l1 kq ((x5_8 ++ ((⟨#[32, 32, 32, 32, 32]⟩ : ByteArray).extract 0 (t243 : Int).toNat)) ++ (⟨#[101, 110, 100]⟩ : ByteArray)) x6_8 t253 x9_2 x10_2 = some r) ∧ Aside0 (kq ≤ kj8) ∧ Aside0 (Kd.R k32 32 w' w.heap.size (fun _ => True) v254 t253) ∧ Aside0 (Below w.heap.size w w'))
                        case atStart => exact ⟨(0), (0), (by first | rfl | (simp; done) | (simp [*]; done)), (by first | rfl | (simp; done) | (simp [*]; done)), H', ⟨Nat.le_refl _⟩, ⟨by (with_reducible repeat (first | apply Kd.R_alloc | apply Kd.R_drewN | apply Kd.R_drew)); exact HO255.out⟩, ⟨by repeat (first | (with_reducible first | exact HB.out | apply below_alloc | apply pw_below_drewN | apply below_drew1) | exact HB.out)⟩⟩
                        case round =>
                          clear H'
                          try clear c1
                          try clear c2
                          try clear p2
                          try clear q2
                          try clear hx2
                          try clear qi2
                          try clear c3
                          try clear c4
                          try clear c6
                          try clear c6b0
                          try clear c6b1
                          try clear p6
                          try clear c7
                          try clear c7b0
                          try clear c7b1
                          try clear c8
                          try clear c8b0
                          try clear c8b1
                          try clear c8b2
                          try clear c10
                          try clear c11
                          try clear c11b0
                          try clear c11b1
                          try clear c12
                          try clear c12b0
                          try clear c13
                          try clear c14
                          try clear c14b0
                          try clear c14b1
                          try clear c15
                          try clear c15b0
                          try clear c15b1
                          try clear c16
                          try clear c16b0
                          try clear c16b1
                          try clear c16b2
                          try clear c17
                          try clear c17b0
                          try clear c19
                          try clear c19b0
                          try clear c20
                          try clear c20b0
                          try clear c21
                          try clear c21b0
                          try clear c21b1
                          try clear c21b2
                          try clear c22
                          try clear c22b0
                          try clear c22b1
                          try clear c22b2
                          try clear p24
                          try clear q24
                          try clear hx24
                          try clear qi24
                          try clear c29
                          try clear c29b0
                          try clear c29b1
                          try clear c30
                          try clear c30b0
                          try clear c30b1
                          try clear c31
                          try clear c31b0
                          try clear c31b1
                          try clear c31b2
                          try clear c32
                          try clear c32b0
                          try clear c32b1
                          try clear c32b2
                          try clear c33
                          try clear c33b0
                          try clear c33b1
                          try clear c33b2
                          try clear hx247_0
                          try clear hx249_0
                          try clear p2
                          try clear p24
                          try clear p247
                          try clear p249
                          try clear p6
                          try clear q2
                          try clear q24
                          try clear q247
                          try clear q249
                          obtain ⟨x9_2, x10_2, rfl, rfl, HA, HK2, HO_8, HB⟩ := hrel
                          cases gk with
                          | zero => exact absurd HA.out (by simp [correctorlaw6_ScanTexts.l1])
                          | succ k2 =>
                            have H := HA.out
                            clear HA
                            simp only [correctorlaw6_ScanTexts.l1] at H
                            by_cases c39 : x10_2 < (t253.length : Int)
                            · rw [if_pos c39] at H
                              have c39b0 : decide (x10_2 < (t253.length : Int)) = true := decide_eq_true c39
                              clear c39
                              by_cases c40 : 0 ≤ x10_2
                              · rw [if_pos c40] at H
                                have c40b0 : decide (0 ≤ x10_2) = true := decide_eq_true c40
                                clear c40
                                by_cases c41 : ((rd_T32 t253 x10_2).f0) = 19
                                · rw [if_pos c41] at H
                                  have c41b0 : (((rd_T32 t253 x10_2).f0) == 19) = true := beq_iff_eq.mpr c41
                                  have c41b1 : (((rd_T32 t253 x10_2).f0) != 19) = false := bne_eq_false_iff_eq.mpr c41
                                  clear c41
                                  have H' := Aside0.mk H
                                  clear H
                                  obtain ⟨Ao42, co42, eo42⟩ := Kd.R_slice HO_8.out
                                  subst eo42
                                  have p256 : 0 ≤ (x10_2 : Int) := of_decide_eq_true (by first | (with_reducible assumption) | assumption)
                                  have q256 : x10_2 < (t253.length : Int) := of_decide_eq_true (by first | (with_reducible assumption) | assumption)
                                  obtain ⟨ad256, e256, hx256_0, hx256_1, hx256_2⟩ := at_T32 (Kd.R_reads' HO_8.out).2.2 x10_2 p256 q256
                                  cases e256
                                  replace p256 := eq_true p256
                                  replace q256 := eq_true q256
                                  go_wp2
                                  go_roundg k2
                                  case measure => have := HJ8.out; have := HK2.out; omega
                                  case rel => exact ⟨(wrap64 (x9_2 + 1)), (wrap64 (x10_2 + 1)), (by first | rfl | (simp; done) | (simp [*]; done)), (by first | rfl | (simp; done) | (simp [*]; done)), H', ⟨by have := HJ8.out; have := HK2.out; omega⟩, ⟨by (with_reducible repeat (first | apply Kd.R_alloc | apply Kd.R_drewN | apply Kd.R_drew)); exact HO_8.out⟩, ⟨by repeat (first | (with_reducible first | exact HB.out | apply below_alloc | apply pw_below_drewN | apply below_drew1) | exact HB.out)⟩⟩
                                · rw [if_neg c41] at H
                                  have c41b0 : (((rd_T32 t253 x10_2).f0) == 19) = false := beq_eq_false_iff_ne.mpr c41
                                  have c41b1 : (((rd_T32 t253 x10_2).f0) != 19) = true := bne_iff_ne.mpr c41
                                  have H' := Aside0.mk H
                                  clear H
                                  obtain ⟨Ao43, co43, eo43⟩ := Kd.R_slice HO_8.out
                                  subst eo43
                                  have p256 : 0 ≤ (x10_2 : Int) := of_decide_eq_true (by first | (with_reducible assumption) | assumption)
                                  have q256 : x10_2 < (t253.length : Int) := of_decide_eq_true (by first | (with_reducible assumption) | assumption)
                                  obtain ⟨ad256, e256, hx256_0, hx256_1, hx256_2⟩ := at_T32 (Kd.R_reads' HO_8.out).2.2 x10_2 p256 q256
                                  cases e256
                                  replace p256 := eq_true p256
                                  replace q256 := eq_true q256
                                  go_wp2
                                  go_roundg k2
                                  case measure => have := HJ8.out; have := HK2.out; omega
                                  case rel => exact ⟨(x9_2), (wrap64 (x10_2 + 1)), (by first | rfl | (simp; done) | (simp [*]; done)), (by first | rfl | (simp; done) | (simp [*]; done)), H', ⟨by have := HJ8.out; have := HK2.out; omega⟩, ⟨by (with_reducible repeat (first | apply Kd.R_alloc | apply Kd.R_drewN | apply Kd.R_drew)); exact HO_8.out⟩, ⟨by repeat (first | (with_reducible first | exact HB.out | apply below_alloc | apply pw_below_drewN | apply below_drew1) | exact HB.out)⟩⟩
                              · rw [if_neg c40] at H
                                exact absurd H (by simp)
                            · rw [if_neg c39] at H
                              have c39b0 : decide (x10_2 < (t253.length : Int)) = false := decide_eq_false c39
                              clear c39
                              by_cases c44 : x9_2 = x6_8
                              · rw [if_pos c44] at H
                                have c44b0 : (x9_2 == x6_8) = true := beq_iff_eq.mpr c44
                                have c44b1 : (x9_2 != x6_8) = false := bne_eq_false_iff_eq.mpr c44
                                clear c44
                                by_cases c45 : (t253.length : Int) > 0
                                · rw [if_pos c45] at H
                                  have c45b0 : decide (0 < (t253.length : Int)) = true := decide_eq_true c45
                                  have c45b1 : decide (0 < t253.length) = true := decide_eq_true (by omega)
                                  clear c45
                                  obtain ⟨ji46, hji46⟩ : ∃ j_ : Int, (wrap64 ((t253.length : Int) - 1)) = j_ := ⟨_, rfl⟩
                                  replace H : (if 0 ≤ (ji46) then (if (ji46) < (t253.length : Int) then (if ((rd_T32 t253 (ji46)).f0) = 15 then (some (((rd_T32 t253 (ji46)).f2) == (((x5_8 ++ ((⟨#[32, 32, 32, 32, 32]⟩ : ByteArray).extract 0 (t243 : Int).toNat)) ++ (⟨#[101, 110, 100]⟩ : ByteArray)).size : Int))) else (some false)) else (none)) else (none)) = some r := by first | (rw [hji46] at H; exact H) | (simp only [hji46] at H ⊢; exact H)
                                  have hji46w : (IntKind.i64.wrap ((t253.length : Int) - 1)) = ji46 := (i64_w _).trans hji46
                                  by_cases c47 : 0 ≤ (ji46)
                                  · rw [if_pos c47] at H
                                    have c47b0 : decide (0 ≤ (ji46)) = true := decide_eq_true c47
                                    clear c47
                                    by_cases c48 : (ji46) < (t253.length : Int)
                                    · rw [if_pos c48] at H
                                      have c48b0 : decide ((ji46) < (t253.length : Int)) = true := decide_eq_true c48
                                      clear c48
                                      by_cases c49 : ((rd_T32 t253 (ji46)).f0) = 15
                                      · rw [if_pos c49] at H
                                        have c49b0 : (((rd_T32 t253 (ji46)).f0) == 15) = true := beq_iff_eq.mpr c49
                                        have c49b1 : (((rd_T32 t253 (ji46)).f0) != 15) = false := bne_eq_false_iff_eq.mpr c49
                                        clear c49
                                        obtain rfl := Option.some.inj H
                                        obtain ⟨Ao50, co50, eo50⟩ := Kd.R_slice HO_8.out
                                        subst eo50
                                        have p257 : 0 ≤ ((ji46) : Int) := of_decide_eq_true (by first | (with_reducible assumption) | assumption)
                                        have q257 : (ji46) < (t253.length : Int) := of_decide_eq_true (by first | (with_reducible assumption) | assumption)
                                        obtain ⟨ad257, e257, hx257_0, hx257_1, hx257_2⟩ := at_T32 (Kd.R_reads' HO_8.out).2.2 (ji46) p257 q257
                                        cases e257
                                        replace p257 := eq_true p257
                                        replace q257 := eq_true q257
                                        have p258 : 0 ≤ ((ji46) : Int) := of_decide_eq_true (by first | (with_reducible assumption) | assumption)
                                        have q258 : (ji46) < (t253.length : Int) := of_decide_eq_true (by first | (with_reducible assumption) | assumption)
                                        obtain ⟨ad258, e258, hx258_0, hx258_1, hx258_2⟩ := at_T32 (Kd.R_reads' HO_8.out).2.2 (ji46) p258 q258
                                        obtain rfl : ad257 = ad258 := (by injection e258)
                                        replace p258 := eq_true p258
                                        replace q258 := eq_true q258
                                        go_wp2
                                        go_ret
                                        exact ⟨by first | rfl | (simp [errW_none, errW_some] <;> rfl) | (simp only [← hji46]; first | rfl | (simp [errW_none, errW_some] <;> rfl)) | (simp [*, errW_none, errW_some] <;> rfl), by repeat (first | (with_reducible first | exact HB.out | apply below_alloc | apply pw_below_drewN | apply below_drew1) | exact HB.out)⟩
                                      · rw [if_neg c49] at H
                                        have c49b0 : (((rd_T32 t253 (ji46)).f0) == 15) = false := beq_eq_false_iff_ne.mpr c49
                                        have c49b1 : (((rd_T32 t253 (ji46)).f0) != 15) = true := bne_iff_ne.mpr c49
                                        obtain rfl := Option.some.inj H
                                        obtain ⟨Ao51, co51, eo51⟩ := Kd.R_slice HO_8.out
                                        subst eo51
                                        have p257 : 0 ≤ ((ji46) : Int) := of_decide_eq_true (by first | (with_reducible assumption) | assumption)
                                        have q257 : (ji46) < (t253.length : Int) := of_decide_eq_true (by first | (with_reducible assumption) | assumption)
                                        obtain ⟨ad257, e257, hx257_0, hx257_1, hx257_2⟩ := at_T32 (Kd.R_reads' HO_8.out).2.2 (ji46) p257 q257
                                        cases e257
                                        replace p257 := eq_true p257
                                        replace q257 := eq_true q257
                                        go_wp2
                                        go_ret
                                        exact ⟨by first | rfl | (simp [errW_none, errW_some] <;> rfl) | (simp only [← hji46]; first | rfl | (simp [errW_none, errW_some] <;> rfl)) | (simp [*, errW_none, errW_some] <;> rfl), by repeat (first | (with_reducible first | exact HB.out | apply below_alloc | apply pw_below_drewN | apply below_drew1) | exact HB.out)⟩
                                    · rw [if_neg c48] at H
                                      exact absurd H (by simp)
                                  · rw [if_neg c47] at H
                                    exact absurd H (by simp)
                                · rw [if_neg c45] at H
                                  have c45b0 : decide (0 < (t253.length : Int)) = false := decide_eq_false c45
                                  have c45b1 : decide (0 < t253.length) = false := decide_eq_false (by omega)
                                  clear c45
                                  obtain rfl := Option.some.inj H
                                  obtain ⟨Ao52, co52, eo52⟩ := Kd.R_slice HO_8.out
                                  subst eo52
                                  go_wp2
                                  go_ret
                                  exact ⟨by first | rfl | (simp [errW_none, errW_some] <;> rfl) | (simp [*, errW_none, errW_some] <;> rfl), by repeat (first | (with_reducible first | exact HB.out | apply below_alloc | apply pw_below_drewN | apply below_drew1) | exact HB.out)⟩
                              · rw [if_neg c44] at H
                                have c44b0 : (x9_2 == x6_8) = false := beq_eq_false_iff_ne.mpr c44
                                have c44b1 : (x9_2 != x6_8) = true := bne_iff_ne.mpr c44
                                obtain rfl := Option.some.inj H
                                obtain ⟨Ao53, co53, eo53⟩ := Kd.R_slice HO_8.out
                                subst eo53
                                go_wp2
                                go_ret
                                exact ⟨by first | rfl | (simp [errW_none, errW_some] <;> rfl) | (simp [*, errW_none, errW_some] <;> rfl), by repeat (first | (with_reducible first | exact HB.out | apply below_alloc | apply pw_below_drewN | apply below_drew1) | exact HB.out)⟩
                      · rw [if_neg c33] at H
                        exact absurd H (by simp)
                    · rw [if_neg c32] at H
                      exact absurd H (by simp)
                  · rw [if_neg c31] at H
                    exact absurd H (by simp)
                · rw [if_neg c30] at H
                  exact absurd H (by simp)
              · rw [if_neg c29] at H
                exact absurd H (by simp)
        · rw [if_neg c8] at H
          exact absurd H (by simp)
      · rw [if_neg c7] at H
        exact absurd H (by simp)
    · rw [if_neg c6] at H
      exact absurd H (by simp)
  · replace c4 := Bool.eq_false_iff.mpr c4
    subst c4
    have H1 : (some false) = some r := by rw [if_neg (show ¬ (false = true) by decide)] at H; exact H
    clear H
    have H := H1
    clear H1
    obtain rfl := Option.some.inj H
    go_enter Try.func7, Try.ntmps7
    go_wp2_with (first | ((with_reducible refine gate_callee (f := 10) rfl ?_); refine goesL_ (some 11) rfl rfl Try.func10 (by kernel_rfl) rfl #[] rfl (by (try simp only [List.map_toArray, List.map_cons, List.map_nil]); first | done | rfl | (simp only [List.length_drop, List.length_take]; rfl) | (simp only [ByteArray.size_extract, Nat.min_self]; done) | (simp only [ByteArray.size_extract, Nat.min_self]; rfl)) ?_; (with_reducible refine (correctorlaw6_known.calls  false _ A3.out).mono ?_); rintro e w54 ⟨rfl, hb⟩; refine ⟨_, rfl, ?_⟩; have n0_ := Aside0.mk (below_step (by repeat (first | (with_reducible first | exact HB.out | apply below_alloc | apply pw_below_drewN | apply below_drew1) | exact HB.out)) hb); clear HB; have HB := n0_; clear n0_; (try clear hb); (try clear hb2); (try clear hk); (try clear hi)))
    go_ret
    exact ⟨by first | rfl | (simp [errW_none, errW_some] <;> rfl) | (simp [*, errW_none, errW_some] <;> rfl), by repeat (first | (with_reducible first | exact HB.out | apply below_alloc | apply pw_below_drewN | apply below_drew1) | exact HB.out)⟩

/-- THE ONE PURE STATEMENT of correctorlaw6_ScanTexts: yours. -/
def correctorlaw6_ScanTexts.Pure : Prop := ∀ (a0 : Int) (l1 : List Int), (Lit.int .i64 a0).wf = true → l1.length ≤ maxLen → l1.length * 8 ≤ 140737488351232 → (∀ x ∈ l1, (Lit.int .i64 x).wf = true) → ∃ k, correctorlaw6_ScanTexts.f k a0 l1 = some true
theorem correctorlaw6_ScanTexts.walk (P : correctorlaw6_ScanTexts.Pure) (a0 : Int) (a1 : Option Addr) (len1 cap1 : Nat) (z1 : List Int) (w : World) (w0 : (Lit.int .i64 a0).wf = true) (w1 : (a1 = none ∧ len1 = 0 ∧ cap1 = 0 ∧ z1 = []) ∨ ∃ x, a1 = some x ∧ len1 ≤ cap1 ∧ cap1 ≤ maxLen ∧ z1.length = cap1 ∧ (∀ i, i < z1.length → w.cell? (x.add i) = some (.int .i64 (z1.getD i 0))) ∧ ∀ n ∈ z1, (Lit.int .i64 n).wf = true) (y1 : len1 * 8 ≤ 140737488351232) :
    Calls Try.prog 7 #[.int .i64 a0, .slice a1 len1 cap1] w fun e w' => e = .returned (.bool true) ∧ Below w.heap.size w w' := by
  obtain ⟨l1, rfl, hr1, hm1, hw1, hc1⟩ := ReadsInt.ofRowC w1
  obtain ⟨k, h⟩ := P a0 l1 w0 hm1 y1 hw1
  refine (correctorlaw6_ScanTexts.calls k a0 _ _ l1 true w (Kd.C_of_reads (d := (0 : Int)) (h1 := fun _ => rfl) hr1) hc1 h).mono ?_
  rintro e w' ⟨rfl, hd⟩
  exact ⟨rfl, hd⟩

end Go.Proofs.Ythoogadfhopkfaa.Q
