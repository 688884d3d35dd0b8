/- Proved here, in the forms of the print's contracts: what each Go function answers, and the rows of the laws over it; by a program and by hand. -/
import Derived.Test.YthoogadfhopkfaaQ0
import Derived.Test.YthoogadfhopkfaaQcorrectorlaw6
namespace Go.Proofs.Ythoogadfhopkfaa.Q
open Go.RowKit Go.Proofs.YthoogadfhopkfaaW.PrintWords Go.Proofs.YthoogadfhopkfaaW.PrintLast Go.Proofs.YthoogadfhopkfaaW.PrintMore
attribute [local go_sem] max2_int min2_int max_two min_two max_three min_three max_four min_four   -- for this text's walks alone
set_option linter.unusedVariables false
set_option linter.unusedSimpArgs false

/-! ### correctorlaw6_quiet: function 15 -/
def correctorlaw6_quiet.l0 : Nat → List Int → List ByteArray → ByteArray → Int → Option (ByteArray)
  | 0, _, _, _, _ => none
  | k + 1, x0, x3, x4, x5 => if x5 < (x0.length : Int) then (if x5 < 25 then (if 0 ≤ x5 then ((correctorlaw6_within.f (rd x0 x5) (x3.length : Int)).bind fun t168 => (if 0 ≤ t168 then (if t168 < (x3.length : Int) then (if x4.size + (rdOf ByteArray.empty x3 t168).size ≤ 9223372036854775807 then (correctorlaw6_quiet.l0 k x0 x3 (x4 ++ (rdOf ByteArray.empty x3 t168)) (wrap64 (x5 + 1))) else (none)) else (none)) else (none))) else (none)) else (some x4)) else (some x4)
def correctorlaw6_quiet.f (k : Nat) (l0 : List Int) : Option (ByteArray) := correctorlaw6_quiet.l0 k l0 (([(⟨#[97]⟩ : ByteArray), (⟨#[98, 58, 32]⟩ : ByteArray), (⟨#[45, 32]⟩ : ByteArray), (⟨#[10]⟩ : ByteArray), (⟨#[32, 32]⟩ : ByteArray), (⟨#[39, 120, 39]⟩ : ByteArray), (⟨#[35, 32, 99]⟩ : ByteArray), (⟨#[32]⟩ : ByteArray), (⟨#[107, 101, 121]⟩ : ByteArray), (⟨#[58]⟩ : ByteArray), (⟨#[45]⟩ : ByteArray), (⟨#[38, 97, 32]⟩ : ByteArray), (⟨#[42, 98, 32]⟩ : ByteArray), (⟨#[33, 116, 32]⟩ : ByteArray)] : List ByteArray)) (⟨#[]⟩ : ByteArray) 0
theorem correctorlaw6_quiet.mono_l : ∀ k, (∀ y0 y1 y2 y3, LeO (correctorlaw6_quiet.l0 k y0 y1 y2 y3) (correctorlaw6_quiet.l0 (k + 1) y0 y1 y2 y3))
  | 0 => fun _ _ _ _ r h => by simp [correctorlaw6_quiet.l0] at h
  | k + 1 => by
    have ih0 := correctorlaw6_quiet.mono_l k
    · intro y0 y1 y2 y3
      unfold correctorlaw6_quiet.l0
      repeat' first
      | (with_reducible exact ih0 _ _ _ _)
      | (with_reducible exact LeO.refl _)
      | (with_reducible exact LeO.none _)
      | (with_reducible refine LeO.ite ?_ ?_)
      | (with_reducible refine LeO.bind ?_ (fun _ => ?_))
      | exact ih0 _ _ _ _
      | exact LeO.none _
      | refine LeO.ite ?_ ?_
      | refine LeO.bind ?_ (fun _ => ?_)
theorem correctorlaw6_quiet.mono : ∀ a0 k, LeO (correctorlaw6_quiet.f k a0) (correctorlaw6_quiet.f (k + 1) a0) := by
  intro a0 k
  have ih0 := correctorlaw6_quiet.mono_l k
  unfold correctorlaw6_quiet.f
  repeat' first
      | (with_reducible exact ih0 _ _ _ _)
      | (with_reducible exact LeO.refl _)
      | (with_reducible exact LeO.none _)
      | (with_reducible refine LeO.ite ?_ ?_)
      | (with_reducible refine LeO.bind ?_ (fun _ => ?_))
      | exact ih0 _ _ _ _
      | exact LeO.none _
      | refine LeO.ite ?_ ?_
      | refine LeO.bind ?_ (fun _ => ?_)
set_option maxHeartbeats 8000000 in
set_option maxRecDepth 100000 in
theorem correctorlaw6_quiet.calls (k : Nat) (A0 : Option Addr) (c0 : Nat) (l0 : List Int) (r : ByteArray) (w : World) (hr0 : Kd.C (Kd.int .i64) w A0 l0.length l0) (hc0 : l0.length ≤ c0) (h : correctorlaw6_quiet.f k l0 = some r) :
    Calls Try.prog 15 #[.slice A0 l0.length c0] w fun e w' => e = .returned (.string r) ∧ Below w.heap.size w w' := by
  have HR0 := Aside0.mk hr0
  have HC0 := Aside0.mk hc0
  clear hr0 hc0
  have HB := Aside0.mk (Below.refl w.heap.size w)
  have H : (correctorlaw6_quiet.l0 k l0 (([(⟨#[97]⟩ : ByteArray), (⟨#[98, 58, 32]⟩ : ByteArray), (⟨#[45, 32]⟩ : ByteArray), (⟨#[10]⟩ : ByteArray), (⟨#[32, 32]⟩ : ByteArray), (⟨#[39, 120, 39]⟩ : ByteArray), (⟨#[35, 32, 99]⟩ : ByteArray), (⟨#[32]⟩ : ByteArray), (⟨#[107, 101, 121]⟩ : ByteArray), (⟨#[58]⟩ : ByteArray), (⟨#[45]⟩ : ByteArray), (⟨#[38, 97, 32]⟩ : ByteArray), (⟨#[42, 98, 32]⟩ : ByteArray), (⟨#[33, 116, 32]⟩ : ByteArray)] : List ByteArray)) (⟨#[]⟩ : ByteArray) 0) = some r := h
  clear h
  obtain ⟨y164, hy164⟩ : ∃ y_ : List ByteArray, y_ = (([(⟨#[97]⟩ : ByteArray), (⟨#[98, 58, 32]⟩ : ByteArray), (⟨#[45, 32]⟩ : ByteArray), (⟨#[10]⟩ : ByteArray), (⟨#[32, 32]⟩ : ByteArray), (⟨#[39, 120, 39]⟩ : ByteArray), (⟨#[35, 32, 99]⟩ : ByteArray), (⟨#[32]⟩ : ByteArray), (⟨#[107, 101, 121]⟩ : ByteArray), (⟨#[58]⟩ : ByteArray), (⟨#[45]⟩ : ByteArray), (⟨#[38, 97, 32]⟩ : ByteArray), (⟨#[42, 98, 32]⟩ : ByteArray), (⟨#[33, 116, 32]⟩ : ByteArray)] : List ByteArray)) := ⟨_, rfl⟩
  replace H : (correctorlaw6_quiet.l0 k l0 y164 (⟨#[]⟩ : ByteArray) 0) = some r := by first | (rw [hy164]; with_reducible exact H) | (have H2_ := (Option.bind_some _ _).symm.trans H; rw [hy164]; with_reducible exact H2_) | (have H2_ := (Option.bind_some _ _).symm.trans H; with_reducible exact H2_) | with_reducible exact H | (rw [hy164]; exact H) | exact H
  have Ny164 := Aside0.mk hy164
  clear hy164
  have H' := Aside0.mk H
  clear H
  go_enter Try.func15, Try.ntmps15
  go_wp2_with (first | ((with_reducible refine gate_dst (N := 6) rfl ?_); refine Kd.R_lit Kd.string _ 9 ?hg (N := 6) ?hd (xs := ([(⟨#[97]⟩ : ByteArray), (⟨#[98, 58, 32]⟩ : ByteArray), (⟨#[45, 32]⟩ : ByteArray), (⟨#[10]⟩ : ByteArray), (⟨#[32, 32]⟩ : ByteArray), (⟨#[39, 120, 39]⟩ : ByteArray), (⟨#[35, 32, 99]⟩ : ByteArray), (⟨#[32]⟩ : ByteArray), (⟨#[107, 101, 121]⟩ : ByteArray), (⟨#[58]⟩ : ByteArray), (⟨#[45]⟩ : ByteArray), (⟨#[38, 97, 32]⟩ : ByteArray), (⟨#[42, 98, 32]⟩ : ByteArray), (⟨#[33, 116, 32]⟩ : ByteArray)] : List ByteArray)) (inner := [.string (⟨#[97]⟩ : ByteArray), .string (⟨#[98, 58, 32]⟩ : ByteArray), .string (⟨#[45, 32]⟩ : ByteArray), .string (⟨#[10]⟩ : ByteArray), .string (⟨#[32, 32]⟩ : ByteArray), .string (⟨#[39, 120, 39]⟩ : ByteArray), .string (⟨#[35, 32, 99]⟩ : ByteArray), .string (⟨#[32]⟩ : ByteArray), .string (⟨#[107, 101, 121]⟩ : ByteArray), .string (⟨#[58]⟩ : ByteArray), .string (⟨#[45]⟩ : ByteArray), .string (⟨#[38, 97, 32]⟩ : ByteArray), .string (⟨#[42, 98, 32]⟩ : ByteArray), .string (⟨#[33, 116, 32]⟩ : ByteArray)]) (ok := fun _ => True) (okp := fun _ => True) ?hr ?hp (fun _ hk => hk) trivial (Below.refl _ _) (Nat.le_refl _) (by simp) ?_; (case hd => rfl); (case hg => rfl); (case hr => first | (go_simp; done) | (go_simp; rfl)); (case hp => exact (Reps.one (show Kd.M Kd.string _ _ _ (⟨#[97]⟩ : ByteArray) [.string (⟨#[97]⟩ : ByteArray)] from rfl) (Reps.one (show Kd.M Kd.string _ _ _ (⟨#[98, 58, 32]⟩ : ByteArray) [.string (⟨#[98, 58, 32]⟩ : ByteArray)] from rfl) (Reps.one (show Kd.M Kd.string _ _ _ (⟨#[45, 32]⟩ : ByteArray) [.string (⟨#[45, 32]⟩ : ByteArray)] from rfl) (Reps.one (show Kd.M Kd.string _ _ _ (⟨#[10]⟩ : ByteArray) [.string (⟨#[10]⟩ : ByteArray)] from rfl) (Reps.one (show Kd.M Kd.string _ _ _ (⟨#[32, 32]⟩ : ByteArray) [.string (⟨#[32, 32]⟩ : ByteArray)] from rfl) (Reps.one (show Kd.M Kd.string _ _ _ (⟨#[39, 120, 39]⟩ : ByteArray) [.string (⟨#[39, 120, 39]⟩ : ByteArray)] from rfl) (Reps.one (show Kd.M Kd.string _ _ _ (⟨#[35, 32, 99]⟩ : ByteArray) [.string (⟨#[35, 32, 99]⟩ : ByteArray)] from rfl) (Reps.one (show Kd.M Kd.string _ _ _ (⟨#[32]⟩ : ByteArray) [.string (⟨#[32]⟩ : ByteArray)] from rfl) (Reps.one (show Kd.M Kd.string _ _ _ (⟨#[107, 101, 121]⟩ : ByteArray) [.string (⟨#[107, 101, 121]⟩ : ByteArray)] from rfl) (Reps.one (show Kd.M Kd.string _ _ _ (⟨#[58]⟩ : ByteArray) [.string (⟨#[58]⟩ : ByteArray)] from rfl) (Reps.one (show Kd.M Kd.string _ _ _ (⟨#[45]⟩ : ByteArray) [.string (⟨#[45]⟩ : ByteArray)] from rfl) (Reps.one (show Kd.M Kd.string _ _ _ (⟨#[38, 97, 32]⟩ : ByteArray) [.string (⟨#[38, 97, 32]⟩ : ByteArray)] from rfl) (Reps.one (show Kd.M Kd.string _ _ _ (⟨#[42, 98, 32]⟩ : ByteArray) [.string (⟨#[42, 98, 32]⟩ : ByteArray)] from rfl) (Reps.one (show Kd.M Kd.string _ _ _ (⟨#[33, 116, 32]⟩ : ByteArray) [.string (⟨#[33, 116, 32]⟩ : ByteArray)] from rfl) (Reps.none _ _)))))))))))))))); intro v165 w2 ho3 hb hg_ hnew_; clear hg_ hnew_; (first | rw [← Ny164.out] at ho3 | (simp only [Int.reduceToNat] at ho3; rw [← Ny164.out] at ho3)); have n0_ := Aside0.mk (Kd.R_lower ho3 (below_size (by repeat (first | (with_reducible first | exact HB.out | apply below_alloc | apply pw_below_drewN | apply below_drew1) | exact HB.out)))); have n1_ := Aside0.mk (below_step (by repeat (first | (with_reducible first | exact HB.out | apply below_alloc | apply pw_below_drewN | apply below_drew1) | exact HB.out)) hb); clear HB; have HO166 := n0_; have HB := n1_; clear n0_ n1_; clear hb ho3))
  go_loopg [4, 5] k (fun kq v4 v5 w' => ∃ (x4_1 : ByteArray) (x5_1 : Int), v4 = .string x4_1 ∧ v5 = .int .i64 x5_1 ∧ Aside0 (correctorlaw6_quiet.l0 kq l0 y164 x4_1 x5_1 = some r) ∧ Aside0 (kq ≤ k) ∧ Aside0 (Kd.R Kd.string 9 w' w.heap.size (fun _ => True) v165 y164) ∧ Aside0 (Below w.heap.size w w'))
  case atStart => exact ⟨((⟨#[]⟩ : ByteArray)), (0), (by first | rfl | (simp; done) | (simp [*]; done)), (by first | rfl | (simp; done) | (simp [*]; done)), H', ⟨Nat.le_refl _⟩, ⟨by (with_reducible repeat (first | apply Kd.R_alloc | apply Kd.R_drewN | apply Kd.R_drew)); exact HO166.out⟩, ⟨by repeat (first | (with_reducible first | exact HB.out | apply below_alloc | apply pw_below_drewN | apply below_drew1) | exact HB.out)⟩⟩
  case round =>
    clear H'
    try clear c1
    try clear p2
    obtain ⟨x4_1, x5_1, rfl, rfl, HA, HK1, HO_3, HB⟩ := hrel
    cases gk with
    | zero => exact absurd HA.out (by simp [correctorlaw6_quiet.l0])
    | succ k1 =>
      have H := HA.out
      clear HA
      simp only [correctorlaw6_quiet.l0] at H
      by_cases c4 : x5_1 < (l0.length : Int)
      · rw [if_pos c4] at H
        have c4b0 : decide (x5_1 < (l0.length : Int)) = true := decide_eq_true c4
        clear c4
        by_cases c5 : x5_1 < 25
        · rw [if_pos c5] at H
          have c5b0 : decide (x5_1 < 25) = true := decide_eq_true c5
          clear c5
          by_cases c6 : 0 ≤ x5_1
          · rw [if_pos c6] at H
            have c6b0 : decide (0 ≤ x5_1) = true := decide_eq_true c6
            clear c6
            replace H := Option.bind_eq_some_iff.mp H
            obtain ⟨t168, A70, H⟩ := H
            replace H : (if 0 ≤ t168 then (if t168 < (y164.length : Int) then (if x4_1.size + (rdOf ByteArray.empty y164 t168).size ≤ 9223372036854775807 then (correctorlaw6_quiet.l0 k1 l0 y164 (x4_1 ++ (rdOf ByteArray.empty y164 t168)) (wrap64 (x5_1 + 1))) else (none)) else (none)) else (none)) = some r := H
            have A7 := Aside0.mk A70
            clear A70
            by_cases c8 : 0 ≤ t168
            · rw [if_pos c8] at H
              have c8b0 : decide (0 ≤ t168) = true := decide_eq_true c8
              clear c8
              by_cases c9 : t168 < (y164.length : Int)
              · rw [if_pos c9] at H
                have c9b0 : decide (t168 < (y164.length : Int)) = true := decide_eq_true c9
                clear c9
                by_cases c10 : x4_1.size + (rdOf ByteArray.empty y164 t168).size ≤ 9223372036854775807
                · rw [if_pos c10] at H
                  have c10b0 := eq_true c10
                  have c10b1 : decide (x4_1.size + (rdOf ByteArray.empty y164 t168).size ≤ 9223372036854775807) = true := decide_eq_true c10
                  try have c10b2 : (9223372036854775807 < x4_1.size + (rdOf ByteArray.empty y164 t168).size) = False := eq_false (Nat.not_lt.2 c10)
                  have H' := Aside0.mk H
                  clear H
                  have p167 : 0 ≤ (x5_1 : Int) := of_decide_eq_true (by first | (with_reducible assumption) | assumption)
                  have q167 : x5_1 < (l0.length : Int) := of_decide_eq_true (by first | (with_reducible assumption) | assumption)
                  obtain ⟨ad167, e167, hx167_0⟩ := Kd.at_int HR0.out x5_1 p167 q167
                  cases e167
                  replace hx167_0 := (HB.out.cell (World.block_lt_of_cell? w _ hx167_0)).trans hx167_0
                  replace p167 := eq_true p167
                  replace q167 := eq_true q167
                  obtain ⟨Ao11, co11, eo11⟩ := Kd.R_slice HO_3.out
                  subst eo11
                  go_wp2_with (first | ((with_reducible refine gate_callee (f := 16) rfl ?_); refine goesL_ (some 25) rfl rfl Try.func16 (by kernel_rfl) rfl #[.int .i64 (rd l0 x5_1), .int .i64 (y164.length : Int)] rfl (by (try simp only [List.map_toArray, List.map_cons, List.map_nil]); first | done | rfl | (simp only [List.length_drop, List.length_take]; rfl) | (simp only [ByteArray.size_extract, Nat.min_self]; done) | (simp only [ByteArray.size_extract, Nat.min_self]; rfl)) ?_; (with_reducible refine (correctorlaw6_within.calls (rd l0 x5_1) (y164.length : Int) t168 _ A7.out).mono ?_); rintro e w' ⟨rfl, ⟨nd, rfl⟩⟩; refine ⟨_, rfl, ?_⟩; have p169 : 0 ≤ (t168 : Int) := of_decide_eq_true (by first | (with_reducible assumption) | assumption); have q169 : t168 < (y164.length : Int) := of_decide_eq_true (by first | (with_reducible assumption) | assumption); obtain ⟨ad169, e169, hx169_0⟩ := Kd.at_string (Kd.R_reads' HO_3.out).2.2 t168 p169 q169; cases e169; replace p169 := eq_true p169; replace q169 := eq_true q169))
                  go_roundg k1
                  case measure => have := HK1.out; omega
                  case rel => exact ⟨(x4_1 ++ (rdOf ByteArray.empty y164 t168)), (wrap64 (x5_1 + 1)), (by first | rfl | (simp; done) | (simp [*]; done)), (by first | rfl | (simp; done) | (simp [*]; done)), H', ⟨by have := HK1.out; omega⟩, ⟨by (with_reducible repeat (first | apply Kd.R_alloc | apply Kd.R_drewN | apply Kd.R_drew)); exact HO_3.out⟩, ⟨by repeat (first | (with_reducible first | exact HB.out | apply below_alloc | apply pw_below_drewN | apply below_drew1) | exact HB.out)⟩⟩
                · rw [if_neg c10] at H
                  exact absurd H (by simp)
              · rw [if_neg c9] at H
                exact absurd H (by simp)
            · rw [if_neg c8] at H
              exact absurd H (by simp)
          · rw [if_neg c6] at H
            exact absurd H (by simp)
        · rw [if_neg c5] at H
          have c5b0 : decide (x5_1 < 25) = false := decide_eq_false c5
          clear c5
          obtain rfl := Option.some.inj H
          go_wp2
          go_ret
          exact ⟨by first | rfl | (simp [errW_none, errW_some] <;> rfl) | (simp [*, errW_none, errW_some] <;> rfl), by repeat (first | (with_reducible first | exact HB.out | apply below_alloc | apply pw_below_drewN | apply below_drew1) | exact HB.out)⟩
      · rw [if_neg c4] at H
        have c4b0 : decide (x5_1 < (l0.length : Int)) = false := decide_eq_false c4
        clear c4
        obtain rfl := Option.some.inj H
        go_wp2
        go_ret
        exact ⟨by first | rfl | (simp [errW_none, errW_some] <;> rfl) | (simp [*, errW_none, errW_some] <;> rfl), by repeat (first | (with_reducible first | exact HB.out | apply below_alloc | apply pw_below_drewN | apply below_drew1) | exact HB.out)⟩

end Go.Proofs.Ythoogadfhopkfaa.Q
