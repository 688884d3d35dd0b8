/- Proved here, in the forms of the print's contracts: what each Go function answers, and the rows of the laws over it; by a program and by hand. -/
import Derived.Test.YtabdoommjdgogaaQ0
import Derived.Test.YtabdoommjdgogaaQchars
import Derived.Test.YtabdoommjdgogaaQstrings
namespace Go.Proofs.Ytabdoommjdgogaa.Q
open Go.RowKit Go.Proofs.YtabdoommjdgogaaW.PrintWords Go.Proofs.YtabdoommjdgogaaW.PrintLast Go.Proofs.YtabdoommjdgogaaW.PrintMore
attribute [local go_sem] max2_int min2_int max_two min_two max_three min_three max_four min_four   -- for this text's walks alone
set_option linter.unusedVariables false
set_option linter.unusedSimpArgs false

-- NOT PRINTED: function 17 (quote_of)

-- NOT PRINTED: function 70 (quote_plain_tell)

/-! ### quote_single_tell: function 71 -/
mutual
def quote_single_tell.l0 : Nat → ByteArray → Int → ByteArray → Option (ByteArray × List Int × Bool)
  | 0, _, _, _ => none
  | k + 1, x6, x7, x102000 => if x7 < (x6.size : Int) then (if 0 ≤ x7 then (if (bt x6 x7) = 39 then (if (wrap64 (x7 + 1)) = (x6.size : Int) then (quote_single_tell.j1 k x6 x7 true x102000) else (if 0 ≤ (wrap64 (x7 + 1)) then (if (wrap64 (x7 + 1)) < (x6.size : Int) then (quote_single_tell.j1 k x6 x7 ((bt x6 (wrap64 (x7 + 1))) != 39) x102000) else (none)) else (none))) else ((strings_Builder_WriteByte.f x102000 (bt x6 x7)).bind fun bt108 => (quote_single_tell.l0 k x6 (wrap64 (x7 + 1)) bt108.2))) else (none)) else ((strings_Builder_String.f x102000).bind fun bt102 => (some (bt102.1, ([] : List Int), false)))
def quote_single_tell.j1 : Nat → ByteArray → Int → Bool → ByteArray → Option (ByteArray × List Int × Bool)
  | 0, _, _, _, _ => none
  | k + 1, x6, x7, x30, x102000 => if x30 = true then ((strings_Builder_String.f x102000).bind fun bt104 => (some (bt104.1, ([] : List Int), true))) else (if 0 ≤ (wrap64 (x7 + 1)) then (if (wrap64 (x7 + 1)) < (x6.size : Int) then ((strings_Builder_WriteByte.f x102000 (bt x6 (wrap64 (x7 + 1)))).bind fun bt106 => (quote_single_tell.l0 k x6 (wrap64 ((wrap64 (x7 + 1)) + 1)) bt106.2)) else (none)) else (none))
end
def quote_single_tell.f (k : Nat) (a0 : ByteArray) : Option (ByteArray × List Int × Bool) := quote_single_tell.l0 k a0 1 (⟨#[]⟩ : ByteArray)
theorem quote_single_tell.mono_l : ∀ k, (∀ y0 y1 y2, LeO (quote_single_tell.l0 k y0 y1 y2) (quote_single_tell.l0 (k + 1) y0 y1 y2)) ∧ (∀ y0 y1 y2 y3, LeO (quote_single_tell.j1 k y0 y1 y2 y3) (quote_single_tell.j1 (k + 1) y0 y1 y2 y3))
  | 0 => ⟨fun _ _ _ r h => by simp [quote_single_tell.l0] at h, fun _ _ _ _ r h => by simp [quote_single_tell.j1] at h⟩
  | k + 1 => by
    obtain ⟨ih0, ih1⟩ := quote_single_tell.mono_l k
    refine ⟨?_, ?_⟩
    · intro y0 y1 y2
      unfold quote_single_tell.l0
      repeat' first
      | (with_reducible exact ih0 _ _ _)
      | (with_reducible exact ih1 _ _ _ _)
      | (with_reducible exact LeO.refl _)
      | (with_reducible exact LeO.none _)
      | (with_reducible refine LeO.ite ?_ ?_)
      | (with_reducible refine LeO.bind ?_ (fun _ => ?_))
      | exact ih0 _ _ _
      | exact ih1 _ _ _ _
      | exact LeO.none _
      | refine LeO.ite ?_ ?_
      | refine LeO.bind ?_ (fun _ => ?_)
    · intro y0 y1 y2 y3
      unfold quote_single_tell.j1
      repeat' first
      | (with_reducible exact ih0 _ _ _)
      | (with_reducible exact ih1 _ _ _ _)
      | (with_reducible exact LeO.refl _)
      | (with_reducible exact LeO.none _)
      | (with_reducible refine LeO.ite ?_ ?_)
      | (with_reducible refine LeO.bind ?_ (fun _ => ?_))
      | exact ih0 _ _ _
      | exact ih1 _ _ _ _
      | exact LeO.none _
      | refine LeO.ite ?_ ?_
      | refine LeO.bind ?_ (fun _ => ?_)
theorem quote_single_tell.mono : ∀ a0 k, LeO (quote_single_tell.f k a0) (quote_single_tell.f (k + 1) a0) := by
  intro a0 k
  obtain ⟨ih0, ih1⟩ := quote_single_tell.mono_l k
  unfold quote_single_tell.f
  repeat' first
      | (with_reducible exact ih0 _ _ _)
      | (with_reducible exact ih1 _ _ _ _)
      | (with_reducible exact LeO.refl _)
      | (with_reducible exact LeO.none _)
      | (with_reducible refine LeO.ite ?_ ?_)
      | (with_reducible refine LeO.bind ?_ (fun _ => ?_))
      | exact ih0 _ _ _
      | exact ih1 _ _ _ _
      | exact LeO.none _
      | refine LeO.ite ?_ ?_
      | refine LeO.bind ?_ (fun _ => ?_)
set_option maxHeartbeats 8000000 in
set_option maxRecDepth 100000 in
theorem quote_single_tell.calls (k : Nat) (a0 : ByteArray) (r1 : ByteArray) (r2 : List Int) (r3 : Bool) (w : World) (h : quote_single_tell.f k a0 = some (r1, r2, r3)) :
    Calls Try.prog 71 #[.string a0] w fun e w' => ∃ v1_ : Value, e = .returned (.tuple #[.string r1, v1_, .bool r3]) ∧ Kd.R (Kd.int .i64) 3 w' w.heap.size (fun _ => True) v1_ r2 ∧ Below w.heap.size w w' := by
  have hu50 := Try.underlying50
  have HB := Aside0.mk (Below.refl w.heap.size w)
  have H : (quote_single_tell.l0 k a0 1 (⟨#[]⟩ : ByteArray)) = some (r1, r2, r3) := h
  clear h
  have H' := Aside0.mk H
  clear H
  go_enter Try.func71, Try.ntmps71
  go_wp2_with (first | ((with_reducible refine gate_dst (N := 5) rfl ?_); refine bld_event ?hg (N := 5) ?hd (T := 50) (e := 5) w (below_size (by repeat (first | (with_reducible first | exact HB.out | apply below_alloc | apply pw_below_drewN | apply below_drew1) | exact HB.out))) ?hr ?_; (case hd => rfl); (case hg => rfl); (case hr => first | (go_simp; done) | (go_simp; rfl)); intro gb101 w2 hi hb2; have n0_ := Aside0.mk (below_step (by repeat (first | (with_reducible first | exact HB.out | apply below_alloc | apply pw_below_drewN | apply below_drew1) | exact HB.out)) hb2); have n1_ := Aside0.mk ((show IsS102 w w2 gb101 (⟨#[]⟩ : ByteArray) from hi)); clear HB; have HB := n0_; have HI101 := n1_; clear n0_ n1_; (try clear hb2 hi)))
  go_loopg [7] k (fun kq v7 w' => ∃ (x7_1 : Int) (x102000_1 : ByteArray), v7 = .int .i64 x7_1 ∧ Aside0 (quote_single_tell.l0 kq a0 x7_1 x102000_1 = some (r1, r2, r3)) ∧ Aside0 (kq ≤ k) ∧ Aside0 (IsS102 w w' gb101 x102000_1) ∧ Aside0 (Below w.heap.size w w'))
  case atStart => exact ⟨(1), ((⟨#[]⟩ : ByteArray)), (by first | rfl | (simp; done) | (simp [*]; done)), H', ⟨Nat.le_refl _⟩, ⟨by repeat (first | (with_reducible first | exact HI101.out | apply IsS102.alloc | apply IsS102.drewN | apply IsS102.drew | apply IsS102.set_0) | exact HI101.out)⟩, ⟨by repeat (first | (with_reducible first | exact HB.out | apply below_alloc | apply pw_below_drewN | apply below_drew1 | refine below_set ?_ (IsS102.ge HI101.out)) | exact HB.out)⟩⟩
  case round =>
    clear H'
    try clear p2
    obtain ⟨x7_1, x102000_1, rfl, HA, HK1, HI101, HB⟩ := hrel
    cases gk with
    | zero => exact absurd HA.out (by simp [quote_single_tell.l0])
    | succ k1 =>
      have H := HA.out
      clear HA
      simp only [quote_single_tell.l0] at H
      by_cases c3 : x7_1 < (a0.size : Int)
      · rw [if_pos c3] at H
        have c3b0 : decide (x7_1 < (a0.size : Int)) = true := decide_eq_true c3
        clear c3
        by_cases c4 : 0 ≤ x7_1
        · rw [if_pos c4] at H
          have c4b0 : decide (0 ≤ x7_1) = true := decide_eq_true c4
          clear c4
          by_cases c6 : (bt a0 x7_1) = 39
          · rw [if_pos c6] at H
            have c6b0 : ((bt a0 x7_1) == 39) = true := beq_iff_eq.mpr c6
            have c6b1 : ((bt a0 x7_1) != 39) = false := bne_eq_false_iff_eq.mpr c6
            clear c6
            have HC7 := Aside0.mk H
            clear H
            have p5 : 0 ≤ (x7_1 : Int) := of_decide_eq_true (by first | (with_reducible assumption) | assumption)
            have q5 : x7_1 < (a0.size : Int) := of_decide_eq_true (by first | (with_reducible assumption) | assumption)
            have hx5 := bt_at a0 x7_1
            replace p5 := eq_true p5
            replace q5 := eq_true q5
            go_upto_region 7 with (fail)
            go_cut [30] (fun v30 wc => ∃ (kq : Nat) (x30_6 : Bool), v30 = .bool x30_6 ∧ Aside0 (quote_single_tell.j1 kq a0 x7_1 x30_6 x102000_1 = some (r1, r2, r3)) ∧ Aside0 (kq ≤ k1) ∧ Aside0 (IsS102 w wc gb101 x102000_1) ∧ Aside0 (Below w.heap.size w wc))
            case first =>
              have H := HC7.out
              clear HC7
              by_cases c8 : (wrap64 (x7_1 + 1)) = (a0.size : Int)
              · rw [if_pos c8] at H
                have c8b0 : ((wrap64 (x7_1 + 1)) == (a0.size : Int)) = true := beq_iff_eq.mpr c8
                have c8b1 : ((wrap64 (x7_1 + 1)) != (a0.size : Int)) = false := bne_eq_false_iff_eq.mpr c8
                clear c8
                (first | rw [c8b0] | (simp only [i64_w, i32_w]; rw [c8b0]) | skip)
                have H' := Aside0.mk H
                clear H
                go_wp2
                go_meet
                case rel => exact ⟨_, (true), (by first | rfl | (simp; done) | (simp [*]; done)), H', ⟨by have := HK1.out; first | omega | exact Nat.le_refl _⟩, ⟨by repeat (first | (with_reducible first | exact HI101.out | apply IsS102.alloc | apply IsS102.drewN | apply IsS102.drew | apply IsS102.set_0) | exact HI101.out)⟩, ⟨by repeat (first | (with_reducible first | exact HB.out | apply below_alloc | apply pw_below_drewN | apply below_drew1 | refine below_set ?_ (IsS102.ge HI101.out)) | exact HB.out)⟩⟩
              · rw [if_neg c8] at H
                have c8b0 : ((wrap64 (x7_1 + 1)) == (a0.size : Int)) = false := beq_eq_false_iff_ne.mpr c8
                have c8b1 : ((wrap64 (x7_1 + 1)) != (a0.size : Int)) = true := bne_iff_ne.mpr c8
                (first | rw [c8b0] | (simp only [i64_w, i32_w]; rw [c8b0]) | skip)
                obtain ⟨ji9, hji9⟩ : ∃ j_ : Int, (wrap64 (x7_1 + 1)) = j_ := ⟨_, rfl⟩
                replace H : (if 0 ≤ (ji9) then (if (ji9) < (a0.size : Int) then (quote_single_tell.j1 k1 a0 x7_1 ((bt a0 (ji9)) != 39) x102000_1) else (none)) else (none)) = some (r1, r2, r3) := by first | (rw [hji9] at H; exact H) | (simp only [hji9] at H ⊢; exact H)
                (try rw [hji9] at c8b0)
                (try rw [hji9] at c8b1)
                have hji9w : (IntKind.i64.wrap (x7_1 + 1)) = ji9 := (i64_w _).trans hji9
                by_cases c10 : 0 ≤ (ji9)
                · rw [if_pos c10] at H
                  have c10b0 : decide (0 ≤ (ji9)) = true := decide_eq_true c10
                  clear c10
                  by_cases c11 : (ji9) < (a0.size : Int)
                  · rw [if_pos c11] at H
                    have c11b0 : decide ((ji9) < (a0.size : Int)) = true := decide_eq_true c11
                    clear c11
                    have H' := Aside0.mk H
                    clear H
                    have p12 : 0 ≤ ((ji9) : Int) := of_decide_eq_true (by first | (with_reducible assumption) | assumption)
                    have q12 : (ji9) < (a0.size : Int) := of_decide_eq_true (by first | (with_reducible assumption) | assumption)
                    have hx12 := bt_at a0 (ji9)
                    replace p12 := eq_true p12
                    replace q12 := eq_true q12
                    go_wp2
                    go_meet
                    case rel => exact ⟨_, (((bt a0 (ji9)) != 39)), (by first | rfl | (simp; done) | (simp only [← hji9] <;> (first | rfl | simp)) | (simp [*]; done)), (by first | exact H' | (simp only [hji9]; exact H') | (rw [hji9]; exact H')), ⟨by have := HK1.out; first | omega | exact Nat.le_refl _⟩, ⟨by repeat (first | (with_reducible first | exact HI101.out | apply IsS102.alloc | apply IsS102.drewN | apply IsS102.drew | apply IsS102.set_0) | exact HI101.out)⟩, ⟨by repeat (first | (with_reducible first | exact HB.out | apply below_alloc | apply pw_below_drewN | apply below_drew1 | refine below_set ?_ (IsS102.ge HI101.out)) | exact HB.out)⟩⟩
                  · rw [if_neg c11] at H
                    exact absurd H (by simp)
                · rw [if_neg c10] at H
                  exact absurd H (by simp)
            case rest =>
              clear HC7
              try clear c1
              try clear p1
              try clear q1
              try clear hx1
              try clear p2
              try clear c3
              try clear c3b0
              try clear c4
              try clear c4b0
              try clear p5
              try clear q5
              try clear hx5
              try clear c6
              try clear c6b0
              try clear c6b1
              try clear p6
              try clear c7
              try clear c8
              try clear c8b0
              try clear c8b1
              try clear c10
              try clear c10b0
              try clear c11
              try clear c11b0
              try clear p12
              try clear q12
              try clear hx12
              try clear p12
              try clear p2
              try clear p5
              try clear q12
              try clear q5
              obtain ⟨kq, x30_6, rfl, HA, HJ6, HI101, HB⟩ := hcut
              cases kq with
              | zero => exact absurd HA.out (by simp [quote_single_tell.j1])
              | succ kj6 =>
                have H := HA.out
                clear HA
                simp only [quote_single_tell.j1] at H
                by_cases c13 : x30_6 = true
                · subst c13
                  have H1 : ((strings_Builder_String.f x102000_1).bind fun bt104 => (some (bt104.1, ([] : List Int), true))) = some (r1, r2, r3) := by rw [if_pos rfl] at H; exact H
                  clear H
                  have H := H1
                  clear H1
                  replace H := Option.bind_eq_some_iff.mp H
                  obtain ⟨⟨t104, t105⟩, A140, H⟩ := H
                  replace H : (some (t104, ([] : List Int), true)) = some (r1, r2, r3) := H
                  have A14 := Aside0.mk A140
                  clear A140
                  simp only [Option.some.injEq, Prod.mk.injEq] at H
                  obtain ⟨rfl, rfl, rfl⟩ := H
                  go_wp2_with (first | ((with_reducible refine gate_callee (f := 23) rfl ?_); refine goesL_ (some 31) rfl rfl Try.func23 (by kernel_rfl) rfl #[.pointer (some ⟨gb101, 0, none⟩)] rfl (by (try simp only [List.map_toArray, List.map_cons, List.map_nil]); first | done | rfl | (simp only [List.length_drop, List.length_take]; rfl) | (simp only [ByteArray.size_extract, Nat.min_self]; done) | (simp only [ByteArray.size_extract, Nat.min_self]; rfl)) ?_; (with_reducible refine (strings_Builder_String.calls gb101 x102000_1 t104 t105 w _ ?side1 ?side2 A14.out).mono ?_); (case side1 => repeat (first | (with_reducible first | exact HI101.out | apply IsS102.alloc | apply IsS102.drewN | apply IsS102.drew | apply IsS102.set_0) | exact HI101.out)); (case side2 => repeat (first | (with_reducible first | exact HB.out | apply below_alloc | apply pw_below_drewN | apply below_drew1 | refine below_set ?_ (IsS102.ge HI101.out)) | exact HB.out)); rintro e w15 ⟨rfl, hi, hb, hk⟩; refine ⟨_, rfl, ?_⟩; have n0_ := Aside0.mk (hb); have n1_ := Aside0.mk (hi); clear HB; clear HI101; have HB := n0_; have HI101 := n1_; clear n0_ n1_; (try clear hb); (try clear hb2); (try clear hk); (try clear hi)))
                  go_ret3
                  exact ⟨_, by first | rfl | (simp [errW_none, errW_some] <;> rfl) | (simp [*, errW_none, errW_some] <;> rfl), by first | exact Kd.R_nil _ _ _ _ _ | exact Kd.N_nil _ _ _ _ _ | exact Kd.V_nil _ _ _ _ _ | exact Kd.Q_nil _ _ _ _ _ | exact Kd.S_nil _ _ _ _ _, by repeat (first | (with_reducible first | exact HB.out | apply below_alloc | apply pw_below_drewN | apply below_drew1 | refine below_set ?_ (IsS102.ge HI101.out)) | exact HB.out)⟩
                · replace c13 := Bool.eq_false_iff.mpr c13
                  subst c13
                  have H1 : (if 0 ≤ (wrap64 (x7_1 + 1)) then (if (wrap64 (x7_1 + 1)) < (a0.size : Int) then ((strings_Builder_WriteByte.f x102000_1 (bt a0 (wrap64 (x7_1 + 1)))).bind fun bt106 => (quote_single_tell.l0 kj6 a0 (wrap64 ((wrap64 (x7_1 + 1)) + 1)) bt106.2)) else (none)) else (none)) = some (r1, r2, r3) := by rw [if_neg (show ¬ (false = true) by decide)] at H; exact H
                  clear H
                  have H := H1
                  clear H1
                  obtain ⟨ji16, hji16⟩ : ∃ j_ : Int, (wrap64 (x7_1 + 1)) = j_ := ⟨_, rfl⟩
                  replace H : (if 0 ≤ (ji16) then (if (ji16) < (a0.size : Int) then ((strings_Builder_WriteByte.f x102000_1 (bt a0 (ji16))).bind fun bt106 => (quote_single_tell.l0 kj6 a0 (wrap64 ((ji16) + 1)) bt106.2)) else (none)) else (none)) = some (r1, r2, r3) := by first | (rw [hji16] at H; exact H) | (simp only [hji16] at H ⊢; exact H)
                  have hji16w : (IntKind.i64.wrap (x7_1 + 1)) = ji16 := (i64_w _).trans hji16
                  by_cases c17 : 0 ≤ (ji16)
                  · rw [if_pos c17] at H
                    have c17b0 : decide (0 ≤ (ji16)) = true := decide_eq_true c17
                    clear c17
                    by_cases c18 : (ji16) < (a0.size : Int)
                    · rw [if_pos c18] at H
                      have c18b0 : decide ((ji16) < (a0.size : Int)) = true := decide_eq_true c18
                      clear c18
                      replace H := Option.bind_eq_some_iff.mp H
                      obtain ⟨⟨t106, t107⟩, A200, H⟩ := H
                      replace H : (quote_single_tell.l0 kj6 a0 (wrap64 ((ji16) + 1)) t107) = some (r1, r2, r3) := H
                      have A20 := Aside0.mk A200
                      clear A200
                      have H' := Aside0.mk H
                      clear H
                      have p19 : 0 ≤ ((ji16) : Int) := of_decide_eq_true (by first | (with_reducible assumption) | assumption)
                      have q19 : (ji16) < (a0.size : Int) := of_decide_eq_true (by first | (with_reducible assumption) | assumption)
                      have hx19 := bt_at a0 (ji16)
                      replace p19 := eq_true p19
                      replace q19 := eq_true q19
                      go_wp2_with (first | ((with_reducible refine gate_callee (f := 20) rfl ?_); refine goesL_ (some 37) rfl rfl Try.func20 (by kernel_rfl) rfl #[.pointer (some ⟨gb101, 0, none⟩), .int .u8 (bt a0 (ji16))] rfl (by (try simp only [List.map_toArray, List.map_cons, List.map_nil]); first | done | (simp only [hji16]; rfl) | rfl | (simp only [List.length_drop, List.length_take]; rfl) | (simp only [ByteArray.size_extract, Nat.min_self]; done) | (simp only [ByteArray.size_extract, Nat.min_self]; rfl)) ?_; (with_reducible refine (strings_Builder_WriteByte.calls gb101 x102000_1 (bt a0 (ji16)) t106 t107 w _ ?side1 ?side2 A20.out).mono ?_); (case side1 => repeat (first | (with_reducible first | exact HI101.out | apply IsS102.alloc | apply IsS102.drewN | apply IsS102.drew | apply IsS102.set_0) | exact HI101.out)); (case side2 => repeat (first | (with_reducible first | exact HB.out | apply below_alloc | apply pw_below_drewN | apply below_drew1 | refine below_set ?_ (IsS102.ge HI101.out)) | exact HB.out)); rintro e w21 ⟨rfl, hi, hb, hk⟩; refine ⟨_, rfl, ?_⟩; have n0_ := Aside0.mk (hb); have n1_ := Aside0.mk (hi); clear HB; clear HI101; have HB := n0_; have HI101 := n1_; clear n0_ n1_; (try clear hb); (try clear hb2); (try clear hk); (try clear hi); (try simp only [errW_none, errW_some])))
                      go_roundg kj6
                      case measure => have := HK1.out; have := HJ6.out; omega
                      case rel => exact ⟨(wrap64 ((ji16) + 1)), (t107), (by first | rfl | (simp; done) | (simp only [← hji16] <;> (first | rfl | simp)) | (simp [*]; done)), (by first | exact H' | (simp only [hji16]; exact H') | (rw [hji16]; exact H')), ⟨by have := HK1.out; have := HJ6.out; omega⟩, ⟨by repeat (first | (with_reducible first | exact HI101.out | apply IsS102.alloc | apply IsS102.drewN | apply IsS102.drew | apply IsS102.set_0) | exact HI101.out)⟩, ⟨by repeat (first | (with_reducible first | exact HB.out | apply below_alloc | apply pw_below_drewN | apply below_drew1 | refine below_set ?_ (IsS102.ge HI101.out)) | exact HB.out)⟩⟩
                    · rw [if_neg c18] at H
                      exact absurd H (by simp)
                  · rw [if_neg c17] at H
                    exact absurd H (by simp)
          · rw [if_neg c6] at H
            have c6b0 : ((bt a0 x7_1) == 39) = false := beq_eq_false_iff_ne.mpr c6
            have c6b1 : ((bt a0 x7_1) != 39) = true := bne_iff_ne.mpr c6
            replace H := Option.bind_eq_some_iff.mp H
            obtain ⟨⟨t108, t109⟩, A230, H⟩ := H
            replace H : (quote_single_tell.l0 k1 a0 (wrap64 (x7_1 + 1)) t109) = some (r1, r2, r3) := H
            have A23 := Aside0.mk A230
            clear A230
            have H' := Aside0.mk H
            clear H
            have p5 : 0 ≤ (x7_1 : Int) := of_decide_eq_true (by first | (with_reducible assumption) | assumption)
            have q5 : x7_1 < (a0.size : Int) := of_decide_eq_true (by first | (with_reducible assumption) | assumption)
            have hx5 := bt_at a0 x7_1
            replace p5 := eq_true p5
            replace q5 := eq_true q5
            have p22 : 0 ≤ (x7_1 : Int) := of_decide_eq_true (by first | (with_reducible assumption) | assumption)
            have q22 : x7_1 < (a0.size : Int) := of_decide_eq_true (by first | (with_reducible assumption) | assumption)
            have hx22 := bt_at a0 x7_1
            replace p22 := eq_true p22
            replace q22 := eq_true q22
            go_wp2_with (first | ((with_reducible refine gate_callee (f := 20) rfl ?_); refine goesL_ (some 37) rfl rfl Try.func20 (by kernel_rfl) rfl #[.pointer (some ⟨gb101, 0, none⟩), .int .u8 (bt a0 x7_1)] rfl (by (try simp only [List.map_toArray, List.map_cons, List.map_nil]); first | done | rfl | (simp only [List.length_drop, List.length_take]; rfl) | (simp only [ByteArray.size_extract, Nat.min_self]; done) | (simp only [ByteArray.size_extract, Nat.min_self]; rfl)) ?_; (with_reducible refine (strings_Builder_WriteByte.calls gb101 x102000_1 (bt a0 x7_1) t108 t109 w _ ?side1 ?side2 A23.out).mono ?_); (case side1 => repeat (first | (with_reducible first | exact HI101.out | apply IsS102.alloc | apply IsS102.drewN | apply IsS102.drew | apply IsS102.set_0) | exact HI101.out)); (case side2 => repeat (first | (with_reducible first | exact HB.out | apply below_alloc | apply pw_below_drewN | apply below_drew1 | refine below_set ?_ (IsS102.ge HI101.out)) | exact HB.out)); rintro e w24 ⟨rfl, hi, hb, hk⟩; refine ⟨_, rfl, ?_⟩; have n0_ := Aside0.mk (hb); have n1_ := Aside0.mk (hi); clear HB; clear HI101; have HB := n0_; have HI101 := n1_; clear n0_ n1_; (try clear hb); (try clear hb2); (try clear hk); (try clear hi); (try simp only [errW_none, errW_some])))
            go_roundg k1
            case measure => have := HK1.out; omega
            case rel => exact ⟨(wrap64 (x7_1 + 1)), (t109), (by first | rfl | (simp; done) | (simp [*]; done)), H', ⟨by have := HK1.out; omega⟩, ⟨by repeat (first | (with_reducible first | exact HI101.out | apply IsS102.alloc | apply IsS102.drewN | apply IsS102.drew | apply IsS102.set_0) | exact HI101.out)⟩, ⟨by repeat (first | (with_reducible first | exact HB.out | apply below_alloc | apply pw_below_drewN | apply below_drew1 | refine below_set ?_ (IsS102.ge HI101.out)) | exact HB.out)⟩⟩
        · rw [if_neg c4] at H
          exact absurd H (by simp)
      · rw [if_neg c3] at H
        have c3b0 : decide (x7_1 < (a0.size : Int)) = false := decide_eq_false c3
        clear c3
        replace H := Option.bind_eq_some_iff.mp H
        obtain ⟨⟨t102, t103⟩, A250, H⟩ := H
        replace H : (some (t102, ([] : List Int), false)) = some (r1, r2, r3) := H
        have A25 := Aside0.mk A250
        clear A250
        simp only [Option.some.injEq, Prod.mk.injEq] at H
        obtain ⟨rfl, rfl, rfl⟩ := H
        go_wp2_with (first | ((with_reducible refine gate_callee (f := 23) rfl ?_); refine goesL_ (some 38) rfl rfl Try.func23 (by kernel_rfl) rfl #[.pointer (some ⟨gb101, 0, none⟩)] rfl (by (try simp only [List.map_toArray, List.map_cons, List.map_nil]); first | done | rfl | (simp only [List.length_drop, List.length_take]; rfl) | (simp only [ByteArray.size_extract, Nat.min_self]; done) | (simp only [ByteArray.size_extract, Nat.min_self]; rfl)) ?_; (with_reducible refine (strings_Builder_String.calls gb101 x102000_1 t102 t103 w _ ?side1 ?side2 A25.out).mono ?_); (case side1 => repeat (first | (with_reducible first | exact HI101.out | apply IsS102.alloc | apply IsS102.drewN | apply IsS102.drew | apply IsS102.set_0) | exact HI101.out)); (case side2 => repeat (first | (with_reducible first | exact HB.out | apply below_alloc | apply pw_below_drewN | apply below_drew1 | refine below_set ?_ (IsS102.ge HI101.out)) | exact HB.out)); rintro e w26 ⟨rfl, hi, hb, hk⟩; refine ⟨_, rfl, ?_⟩; have n0_ := Aside0.mk (hb); have n1_ := Aside0.mk (hi); clear HB; clear HI101; have HB := n0_; have HI101 := n1_; clear n0_ n1_; (try clear hb); (try clear hb2); (try clear hk); (try clear hi)))
        go_ret3
        exact ⟨_, by first | rfl | (simp [errW_none, errW_some] <;> rfl) | (simp [*, errW_none, errW_some] <;> rfl), by first | exact Kd.R_nil _ _ _ _ _ | exact Kd.N_nil _ _ _ _ _ | exact Kd.V_nil _ _ _ _ _ | exact Kd.Q_nil _ _ _ _ _ | exact Kd.S_nil _ _ _ _ _, by repeat (first | (with_reducible first | exact HB.out | apply below_alloc | apply pw_below_drewN | apply below_drew1 | refine below_set ?_ (IsS102.ge HI101.out)) | exact HB.out)⟩

/-! ### quote_double_tell: function 72 -/
def quote_double_tell.l0 : Nat → List Int → ByteArray → Int → ByteArray → Option (ByteArray × List Int × Bool)
  | 0, _, _, _, _ => none
  | k + 1, x6, x7, x8, x119000 => if x8 < (x7.size : Int) then (if 0 ≤ x8 then (if (bt x7 x8) = 34 then ((strings_Builder_String.f x119000).bind fun bt121 => (some (bt121.1, x6, true))) else (if x8 ≤ (x7.size : Int) then ((chars_Escape.f k (x7.extract (x8 : Int).toNat x7.size)).bind fun bt123 => (if bt123.2 = 0 then (if x8 ≤ (wrap64 (x8 + 1)) then (if (wrap64 (x8 + 1)) ≤ (x7.size : Int) then (if (bt x7 x8) = 92 then (if x6.length < 17592186044416 then ((strings_Builder_WriteString.f x119000 (x7.extract (x8 : Int).toNat ((wrap64 (x8 + 1)) : Int).toNat)).bind fun bt128 => (quote_double_tell.l0 k (x6 ++ [x8]) x7 (wrap64 (x8 + 1)) bt128.2.2)) else (none)) else ((strings_Builder_WriteString.f x119000 (x7.extract (x8 : Int).toNat ((wrap64 (x8 + 1)) : Int).toNat)).bind fun bt131 => (quote_double_tell.l0 k x6 x7 (wrap64 (x8 + 1)) bt131.2.2))) else (none)) else (none)) else ((strings_Builder_WriteString.f x119000 bt123.1).bind fun bt134 => (quote_double_tell.l0 k x6 x7 (wrap64 (x8 + bt123.2)) bt134.2.2)))) else (none))) else (none)) else ((strings_Builder_String.f x119000).bind fun bt119 => (some (bt119.1, x6, false)))
def quote_double_tell.f (k : Nat) (a0 : ByteArray) : Option (ByteArray × List Int × Bool) := quote_double_tell.l0 k ([] : List Int) a0 1 (⟨#[]⟩ : ByteArray)
theorem quote_double_tell.mono_l : ∀ k, (∀ y0 y1 y2 y3, LeO (quote_double_tell.l0 k y0 y1 y2 y3) (quote_double_tell.l0 (k + 1) y0 y1 y2 y3))
  | 0 => fun _ _ _ _ r h => by simp [quote_double_tell.l0] at h
  | k + 1 => by
    have ih0 := quote_double_tell.mono_l k
    · intro y0 y1 y2 y3
      unfold quote_double_tell.l0
      repeat' first
      | (with_reducible exact ih0 _ _ _ _)
      | (with_reducible exact chars_Escape.mono _ _)
      | (with_reducible exact LeO.refl _)
      | (with_reducible exact LeO.none _)
      | (with_reducible refine LeO.ite ?_ ?_)
      | (with_reducible refine LeO.bind ?_ (fun _ => ?_))
      | exact ih0 _ _ _ _
      | exact chars_Escape.mono _ _
      | exact LeO.none _
      | refine LeO.ite ?_ ?_
      | refine LeO.bind ?_ (fun _ => ?_)
theorem quote_double_tell.mono : ∀ a0 k, LeO (quote_double_tell.f k a0) (quote_double_tell.f (k + 1) a0) := by
  intro a0 k
  have ih0 := quote_double_tell.mono_l k
  unfold quote_double_tell.f
  repeat' first
      | (with_reducible exact ih0 _ _ _ _)
      | (with_reducible exact chars_Escape.mono _ _)
      | (with_reducible exact LeO.refl _)
      | (with_reducible exact LeO.none _)
      | (with_reducible refine LeO.ite ?_ ?_)
      | (with_reducible refine LeO.bind ?_ (fun _ => ?_))
      | exact ih0 _ _ _ _
      | exact chars_Escape.mono _ _
      | exact LeO.none _
      | refine LeO.ite ?_ ?_
      | refine LeO.bind ?_ (fun _ => ?_)
set_option maxHeartbeats 8000000 in
set_option maxRecDepth 100000 in
theorem quote_double_tell.calls (k : Nat) (a0 : ByteArray) (r1 : ByteArray) (r2 : List Int) (r3 : Bool) (w : World) (h : quote_double_tell.f k a0 = some (r1, r2, r3)) :
    Calls Try.prog 72 #[.string a0] w fun e w' => ∃ v1_ : Value, e = .returned (.tuple #[.string r1, v1_, .bool r3]) ∧ Kd.R (Kd.int .i64) 3 w' w.heap.size (fun _ => True) v1_ r2 ∧ Below w.heap.size w w' := by
  have hu50 := Try.underlying50
  have HB := Aside0.mk (Below.refl w.heap.size w)
  have H : (quote_double_tell.l0 k ([] : List Int) a0 1 (⟨#[]⟩ : ByteArray)) = some (r1, r2, r3) := h
  clear h
  have H' := Aside0.mk H
  clear H
  go_enter Try.func72, Try.ntmps72
  go_wp2_with (first | ((with_reducible refine gate_dst (N := 5) rfl ?_); refine bld_event ?hg (N := 5) ?hd (T := 50) (e := 5) w (below_size (by repeat (first | (with_reducible first | exact HB.out | apply below_alloc | apply pw_below_drewN | apply below_drew1) | exact HB.out))) ?hr ?_; (case hd => rfl); (case hg => rfl); (case hr => first | (go_simp; done) | (go_simp; rfl)); intro gb118 w2 hi hb2; have n0_ := Aside0.mk (below_step (by repeat (first | (with_reducible first | exact HB.out | apply below_alloc | apply pw_below_drewN | apply below_drew1) | exact HB.out)) hb2); have n1_ := Aside0.mk ((show IsS102 w w2 gb118 (⟨#[]⟩ : ByteArray) from hi)); clear HB; have HB := n0_; have HI118 := n1_; clear n0_ n1_; (try clear hb2 hi)))
  go_loopg [6, 8] k (fun kq v6 v8 w' => ∃ (x6_1 : List Int) (x8_1 : Int) (x119000_1 : ByteArray), v8 = .int .i64 x8_1 ∧ Aside0 (quote_double_tell.l0 kq x6_1 a0 x8_1 x119000_1 = some (r1, r2, r3)) ∧ Aside0 (kq ≤ k) ∧ Aside0 (Kd.R (Kd.int .i64) 3 w' w.heap.size (fun _ => True) v6 x6_1) ∧ Aside0 (IsS102 w w' gb118 x119000_1) ∧ Aside0 (Below w.heap.size w w'))
  case atStart => exact ⟨(([] : List Int)), (1), ((⟨#[]⟩ : ByteArray)), (by first | rfl | (simp; done) | (simp [*]; done)), H', ⟨Nat.le_refl _⟩, ⟨by first | exact Kd.R_nil _ _ _ _ _ | exact Kd.N_nil _ _ _ _ _ | exact Kd.V_nil _ _ _ _ _ | exact Kd.Q_nil _ _ _ _ _ | exact Kd.S_nil _ _ _ _ _⟩, ⟨by repeat (first | (with_reducible first | exact HI118.out | apply IsS102.alloc | apply IsS102.drewN | apply IsS102.drew | apply IsS102.set_0) | exact HI118.out)⟩, ⟨by repeat (first | (with_reducible first | exact HB.out | apply below_alloc | apply pw_below_drewN | apply below_drew1 | refine below_set ?_ (IsS102.ge HI118.out)) | exact HB.out)⟩⟩
  case round =>
    clear H'
    try clear p2
    obtain ⟨x6_1, x8_1, x119000_1, rfl, HA, HK1, HO_6, HI118, HB⟩ := hrel
    cases gk with
    | zero => exact absurd HA.out (by simp [quote_double_tell.l0])
    | succ k1 =>
      have H := HA.out
      clear HA
      simp only [quote_double_tell.l0] at H
      by_cases c3 : x8_1 < (a0.size : Int)
      · rw [if_pos c3] at H
        have c3b0 : decide (x8_1 < (a0.size : Int)) = true := decide_eq_true c3
        clear c3
        by_cases c4 : 0 ≤ x8_1
        · rw [if_pos c4] at H
          have c4b0 : decide (0 ≤ x8_1) = true := decide_eq_true c4
          clear c4
          by_cases c6 : (bt a0 x8_1) = 34
          · rw [if_pos c6] at H
            have c6b0 : ((bt a0 x8_1) == 34) = true := beq_iff_eq.mpr c6
            have c6b1 : ((bt a0 x8_1) != 34) = false := bne_eq_false_iff_eq.mpr c6
            clear c6
            replace H := Option.bind_eq_some_iff.mp H
            obtain ⟨⟨t121, t122⟩, A70, H⟩ := H
            replace H : (some (t121, x6_1, true)) = some (r1, r2, r3) := H
            have A7 := Aside0.mk A70
            clear A70
            simp only [Option.some.injEq, Prod.mk.injEq] at H
            obtain ⟨rfl, rfl, rfl⟩ := H
            have p5 : 0 ≤ (x8_1 : Int) := of_decide_eq_true (by first | (with_reducible assumption) | assumption)
            have q5 : x8_1 < (a0.size : Int) := of_decide_eq_true (by first | (with_reducible assumption) | assumption)
            have hx5 := bt_at a0 x8_1
            replace p5 := eq_true p5
            replace q5 := eq_true q5
            go_wp2_with (first | ((with_reducible refine gate_callee (f := 23) rfl ?_); refine goesL_ (some 20) rfl rfl Try.func23 (by kernel_rfl) rfl #[.pointer (some ⟨gb118, 0, none⟩)] rfl (by (try simp only [List.map_toArray, List.map_cons, List.map_nil]); first | done | rfl | (simp only [List.length_drop, List.length_take]; rfl) | (simp only [ByteArray.size_extract, Nat.min_self]; done) | (simp only [ByteArray.size_extract, Nat.min_self]; rfl)) ?_; (with_reducible refine (strings_Builder_String.calls gb118 x119000_1 t121 t122 w _ ?side1 ?side2 A7.out).mono ?_); (case side1 => repeat (first | (with_reducible first | exact HI118.out | apply IsS102.alloc | apply IsS102.drewN | apply IsS102.drew | apply IsS102.set_0) | exact HI118.out)); (case side2 => repeat (first | (with_reducible first | exact HB.out | apply below_alloc | apply pw_below_drewN | apply below_drew1 | refine below_set ?_ (IsS102.ge HI118.out)) | exact HB.out)); rintro e w8 ⟨rfl, hi, hb, hk⟩; refine ⟨_, rfl, ?_⟩; have n0_ := Aside0.mk (R_keepE (e := 5) (IsS102.apart (show IsS102 w _ gb118 x119000_1 from by repeat (first | (with_reducible first | exact HI118.out | apply IsS102.alloc | apply IsS102.drewN | apply IsS102.drew | apply IsS102.set_0) | exact HI118.out)) (by (with_reducible repeat (first | apply Kd.R_alloc | apply Kd.R_drewN | apply Kd.R_drew)); exact HO_6.out) (by decide)) hk (by decide)); have n1_ := Aside0.mk (hb); have n2_ := Aside0.mk (hi); clear HO_6; clear HB; clear HI118; have HO_6 := n0_; have HB := n1_; have HI118 := n2_; clear n0_ n1_ n2_; (try clear hb); (try clear hb2); (try clear hk); (try clear hi)))
            go_ret3
            exact ⟨_, by first | rfl | (simp [errW_none, errW_some] <;> rfl) | (simp [*, errW_none, errW_some] <;> rfl), by (with_reducible repeat (first | apply Kd.R_alloc | apply Kd.R_drewN | apply Kd.R_drew)); exact HO_6.out, by repeat (first | (with_reducible first | exact HB.out | apply below_alloc | apply pw_below_drewN | apply below_drew1 | refine below_set ?_ (IsS102.ge HI118.out)) | exact HB.out)⟩
          · rw [if_neg c6] at H
            have c6b0 : ((bt a0 x8_1) == 34) = false := beq_eq_false_iff_ne.mpr c6
            have c6b1 : ((bt a0 x8_1) != 34) = true := bne_iff_ne.mpr c6
            have c9b0 := eq_true (of_decide_eq_true (by first | (with_reducible assumption) | assumption) : 0 ≤ x8_1)
            by_cases c10 : x8_1 ≤ (a0.size : Int)
            · rw [if_pos c10] at H
              have c10b0 := eq_true c10
              have c10b1 : decide (x8_1 ≤ (a0.size : Int)) = true := decide_eq_true c10
              clear c10
              replace H := Option.bind_eq_some_iff.mp H
              obtain ⟨⟨t123, t124⟩, A110, H⟩ := H
              replace H : (if t124 = 0 then (if x8_1 ≤ (wrap64 (x8_1 + 1)) then (if (wrap64 (x8_1 + 1)) ≤ (a0.size : Int) then (if (bt a0 x8_1) = 92 then (if x6_1.length < 17592186044416 then ((strings_Builder_WriteString.f x119000_1 (a0.extract (x8_1 : Int).toNat ((wrap64 (x8_1 + 1)) : Int).toNat)).bind fun bt128 => (quote_double_tell.l0 k1 (x6_1 ++ [x8_1]) a0 (wrap64 (x8_1 + 1)) bt128.2.2)) else (none)) else ((strings_Builder_WriteString.f x119000_1 (a0.extract (x8_1 : Int).toNat ((wrap64 (x8_1 + 1)) : Int).toNat)).bind fun bt131 => (quote_double_tell.l0 k1 x6_1 a0 (wrap64 (x8_1 + 1)) bt131.2.2))) else (none)) else (none)) else ((strings_Builder_WriteString.f x119000_1 t123).bind fun bt134 => (quote_double_tell.l0 k1 x6_1 a0 (wrap64 (x8_1 + t124)) bt134.2.2))) = some (r1, r2, r3) := H
              have A11 := Aside0.mk A110
              clear A110
              by_cases c12 : t124 = 0
              · rw [if_pos c12] at H
                have c12b0 : (t124 == 0) = true := beq_iff_eq.mpr c12
                have c12b1 : (t124 != 0) = false := bne_eq_false_iff_eq.mpr c12
                clear c12
                have c13b0 := eq_true (of_decide_eq_true (by first | (with_reducible assumption) | assumption) : 0 ≤ x8_1)
                by_cases c14 : x8_1 ≤ (wrap64 (x8_1 + 1))
                · rw [if_pos c14] at H
                  have c14b0 := eq_true c14
                  have c14b1 : decide (x8_1 ≤ (wrap64 (x8_1 + 1))) = true := decide_eq_true c14
                  by_cases c15 : (wrap64 (x8_1 + 1)) ≤ (a0.size : Int)
                  · rw [if_pos c15] at H
                    have c15b0 := eq_true c15
                    have c15b1 : decide ((wrap64 (x8_1 + 1)) ≤ (a0.size : Int)) = true := decide_eq_true c15
                    by_cases c17 : (bt a0 x8_1) = 92
                    · rw [if_pos c17] at H
                      have c17b0 : ((bt a0 x8_1) == 92) = true := beq_iff_eq.mpr c17
                      have c17b1 : ((bt a0 x8_1) != 92) = false := bne_eq_false_iff_eq.mpr c17
                      clear c17
                      by_cases c18 : x6_1.length < 17592186044416
                      · rw [if_pos c18] at H
                        have LMc18 := Aside0.mk c18
                        clear c18
                        obtain ⟨y125, hy125⟩ : ∃ y_ : List Int, y_ = (x6_1 ++ [x8_1]) := ⟨_, rfl⟩
                        replace H : ((strings_Builder_WriteString.f x119000_1 (a0.extract (x8_1 : Int).toNat ((wrap64 (x8_1 + 1)) : Int).toNat)).bind fun bt128 => (quote_double_tell.l0 k1 y125 a0 (wrap64 (x8_1 + 1)) bt128.2.2)) = some (r1, r2, r3) := by first | (rw [hy125]; with_reducible exact H) | (have H2_ := (Option.bind_some _ _).symm.trans H; rw [hy125]; with_reducible exact H2_) | (have H2_ := (Option.bind_some _ _).symm.trans H; with_reducible exact H2_) | with_reducible exact H | (rw [hy125]; exact H) | exact H
                        have Ny125 := Aside0.mk hy125
                        clear hy125
                        replace H := Option.bind_eq_some_iff.mp H
                        obtain ⟨⟨t128, t129, t130⟩, A190, H⟩ := H
                        replace H : (quote_double_tell.l0 k1 y125 a0 (wrap64 (x8_1 + 1)) t130) = some (r1, r2, r3) := H
                        have A19 := Aside0.mk A190
                        clear A190
                        have H' := Aside0.mk H
                        clear H
                        have p5 : 0 ≤ (x8_1 : Int) := of_decide_eq_true (by first | (with_reducible assumption) | assumption)
                        have q5 : x8_1 < (a0.size : Int) := of_decide_eq_true (by first | (with_reducible assumption) | assumption)
                        have hx5 := bt_at a0 x8_1
                        replace p5 := eq_true p5
                        replace q5 := eq_true q5
                        go_wp2_with (first | ((with_reducible refine gate_callee (f := 73) rfl ?_); refine goesL_ (some 26) rfl rfl Try.func73 (by kernel_rfl) rfl #[.string (a0.extract (x8_1 : Int).toNat a0.size)] rfl (by (try simp only [List.map_toArray, List.map_cons, List.map_nil]); first | done | rfl | (simp only [List.length_drop, List.length_take]; rfl) | (simp only [ByteArray.size_extract, Nat.min_self]; done) | (simp only [ByteArray.size_extract, Nat.min_self]; rfl)) ?_; (with_reducible refine (chars_Escape.calls k1 (a0.extract (x8_1 : Int).toNat a0.size) t123 t124 _ A11.out).mono ?_); rintro e w20 ⟨rfl, hb⟩; refine ⟨_, rfl, ?_⟩; have n0_ := Aside0.mk (Kd.R_below (by (with_reducible repeat (first | apply Kd.R_alloc | apply Kd.R_drewN | apply Kd.R_drew)); exact HO_6.out) hb); have n1_ := Aside0.mk (IsS102.below (by repeat (first | (with_reducible first | exact HI118.out | apply IsS102.alloc | apply IsS102.drewN | apply IsS102.drew | apply IsS102.set_0) | exact HI118.out)) hb); have n2_ := Aside0.mk (below_step (by repeat (first | (with_reducible first | exact HB.out | apply below_alloc | apply pw_below_drewN | apply below_drew1 | refine below_set ?_ (IsS102.ge HI118.out)) | exact HB.out)) hb); clear HO_6; clear HI118; clear HB; have HO_6 := n0_; have HI118 := n1_; have HB := n2_; clear n0_ n1_ n2_; (try clear hb); (try clear hb2); (try clear hk); (try clear hi); have p16 : 0 ≤ (x8_1 : Int) := of_decide_eq_true (by first | (with_reducible assumption) | assumption); have q16 : x8_1 < (a0.size : Int) := of_decide_eq_true (by first | (with_reducible assumption) | assumption); have hx16 := bt_at a0 x8_1; replace p16 := eq_true p16; replace q16 := eq_true q16) | ((with_reducible refine gate_builtin (b := .append) (xs := #[.tmp 40, .tmp 42]) rfl ?_); at_builtin; refine Kd.R_append (Kd.int .i64) (w0 := w) w.heap.size rfl (.tmp 40) (.tmp 42) 22 3 (.int .i64 0) 8 rfl Try.underlying22 info3 rfl (by decide) (by omega) u6 x6_1 x8_1 [.int .i64 x8_1] (fun _ => True) (fun _ => False) rfl rfl ?aP (fun _ hk => hk.elim) ?aF ?aO ?aB ?aS ?aL ?_; (case aP => exact rfl); (case aB => exact (by repeat (first | (with_reducible first | exact HB.out | apply below_alloc | apply pw_below_drewN | apply below_drew1 | refine below_set ?_ (IsS102.ge HI118.out)) | exact HB.out))); (case aF => exact (fun _ _ => trivial)); (case aO => exact (by (with_reducible repeat (first | apply Kd.R_alloc | apply Kd.R_drewN | apply Kd.R_drew)); exact HO_6.out)); (case aS => exact (below_size (by repeat (first | (with_reducible first | exact HB.out | apply below_alloc | apply pw_below_drewN | apply below_drew1 | refine below_set ?_ (IsS102.ge HI118.out)) | exact HB.out)))); (case aL => have := LMc18.out; omega); intro v126 w21 ho hb hg hat; rw [← Ny125.out] at ho; have n0_ := Aside0.mk (IsS102.grown (by repeat (first | (with_reducible first | exact HI118.out | apply IsS102.alloc | apply IsS102.drewN | apply IsS102.drew | apply IsS102.set_0) | exact HI118.out)) hg (IsS102.own_ne HI118.out HO_6.out (by decide))); have n1_ := Aside0.mk (hb); have n2_ := Aside0.mk (ho); clear HI118; clear HB; clear HO_6; have HI118 := n0_; have HB := n1_; have HO127 := n2_; clear n0_ n1_ n2_; clear ho hb hg hat) | ((with_reducible refine gate_callee (f := 21) rfl ?_); refine goesL_ (some 45) rfl rfl Try.func21 (by kernel_rfl) rfl #[.pointer (some ⟨gb118, 0, none⟩), .string (a0.extract (x8_1 : Int).toNat ((wrap64 (x8_1 + 1)) : Int).toNat)] rfl (by (try simp only [List.map_toArray, List.map_cons, List.map_nil]); first | done | rfl | (simp only [List.length_drop, List.length_take]; rfl) | (simp only [ByteArray.size_extract, Nat.min_self]; done) | (simp only [ByteArray.size_extract, Nat.min_self]; rfl)) ?_; (with_reducible refine (strings_Builder_WriteString.calls gb118 x119000_1 (a0.extract (x8_1 : Int).toNat ((wrap64 (x8_1 + 1)) : Int).toNat) t128 t129 t130 w _ ?side1 ?side2 A19.out).mono ?_); (case side1 => repeat (first | (with_reducible first | exact HI118.out | apply IsS102.alloc | apply IsS102.drewN | apply IsS102.drew | apply IsS102.set_0) | exact HI118.out)); (case side2 => repeat (first | (with_reducible first | exact HB.out | apply below_alloc | apply pw_below_drewN | apply below_drew1 | refine below_set ?_ (IsS102.ge HI118.out)) | exact HB.out)); rintro e w22 ⟨rfl, hi, hb, hk⟩; refine ⟨_, rfl, ?_⟩; have n0_ := Aside0.mk (R_keepE (e := 5) (IsS102.apart (show IsS102 w _ gb118 x119000_1 from by repeat (first | (with_reducible first | exact HI118.out | apply IsS102.alloc | apply IsS102.drewN | apply IsS102.drew | apply IsS102.set_0) | exact HI118.out)) (by (with_reducible repeat (first | apply Kd.R_alloc | apply Kd.R_drewN | apply Kd.R_drew)); exact HO127.out) (by decide)) hk (by decide)); have n1_ := Aside0.mk (hb); have n2_ := Aside0.mk (hi); clear HO127; clear HB; clear HI118; have HO127 := n0_; have HB := n1_; have HI118 := n2_; clear n0_ n1_ n2_; (try clear hb); (try clear hb2); (try clear hk); (try clear hi); (try simp only [errW_none, errW_some])))
                        go_roundg k1
                        case measure => have := HK1.out; omega
                        case rel => exact ⟨(y125), (wrap64 (x8_1 + 1)), (t130), (by first | rfl | (simp; done) | (simp [*]; done)), H', ⟨by have := HK1.out; omega⟩, ⟨by (with_reducible repeat (first | apply Kd.R_alloc | apply Kd.R_drewN | apply Kd.R_drew)); exact HO127.out⟩, ⟨by repeat (first | (with_reducible first | exact HI118.out | apply IsS102.alloc | apply IsS102.drewN | apply IsS102.drew | apply IsS102.set_0) | exact HI118.out)⟩, ⟨by repeat (first | (with_reducible first | exact HB.out | apply below_alloc | apply pw_below_drewN | apply below_drew1 | refine below_set ?_ (IsS102.ge HI118.out)) | exact HB.out)⟩⟩
                      · rw [if_neg c18] at H
                        exact absurd H (by simp)
                    · rw [if_neg c17] at H
                      have c17b0 : ((bt a0 x8_1) == 92) = false := beq_eq_false_iff_ne.mpr c17
                      have c17b1 : ((bt a0 x8_1) != 92) = true := bne_iff_ne.mpr c17
                      replace H := Option.bind_eq_some_iff.mp H
                      obtain ⟨⟨t131, t132, t133⟩, A230, H⟩ := H
                      replace H : (quote_double_tell.l0 k1 x6_1 a0 (wrap64 (x8_1 + 1)) t133) = some (r1, r2, r3) := H
                      have A23 := Aside0.mk A230
                      clear A230
                      have H' := Aside0.mk H
                      clear H
                      have p5 : 0 ≤ (x8_1 : Int) := of_decide_eq_true (by first | (with_reducible assumption) | assumption)
                      have q5 : x8_1 < (a0.size : Int) := of_decide_eq_true (by first | (with_reducible assumption) | assumption)
                      have hx5 := bt_at a0 x8_1
                      replace p5 := eq_true p5
                      replace q5 := eq_true q5
                      go_wp2_with (first | ((with_reducible refine gate_callee (f := 73) rfl ?_); refine goesL_ (some 26) rfl rfl Try.func73 (by kernel_rfl) rfl #[.string (a0.extract (x8_1 : Int).toNat a0.size)] rfl (by (try simp only [List.map_toArray, List.map_cons, List.map_nil]); first | done | rfl | (simp only [List.length_drop, List.length_take]; rfl) | (simp only [ByteArray.size_extract, Nat.min_self]; done) | (simp only [ByteArray.size_extract, Nat.min_self]; rfl)) ?_; (with_reducible refine (chars_Escape.calls k1 (a0.extract (x8_1 : Int).toNat a0.size) t123 t124 _ A11.out).mono ?_); rintro e w24 ⟨rfl, hb⟩; refine ⟨_, rfl, ?_⟩; have n0_ := Aside0.mk (Kd.R_below (by (with_reducible repeat (first | apply Kd.R_alloc | apply Kd.R_drewN | apply Kd.R_drew)); exact HO_6.out) hb); have n1_ := Aside0.mk (IsS102.below (by repeat (first | (with_reducible first | exact HI118.out | apply IsS102.alloc | apply IsS102.drewN | apply IsS102.drew | apply IsS102.set_0) | exact HI118.out)) hb); have n2_ := Aside0.mk (below_step (by repeat (first | (with_reducible first | exact HB.out | apply below_alloc | apply pw_below_drewN | apply below_drew1 | refine below_set ?_ (IsS102.ge HI118.out)) | exact HB.out)) hb); clear HO_6; clear HI118; clear HB; have HO_6 := n0_; have HI118 := n1_; have HB := n2_; clear n0_ n1_ n2_; (try clear hb); (try clear hb2); (try clear hk); (try clear hi); have p16 : 0 ≤ (x8_1 : Int) := of_decide_eq_true (by first | (with_reducible assumption) | assumption); have q16 : x8_1 < (a0.size : Int) := of_decide_eq_true (by first | (with_reducible assumption) | assumption); have hx16 := bt_at a0 x8_1; replace p16 := eq_true p16; replace q16 := eq_true q16) | ((with_reducible refine gate_callee (f := 21) rfl ?_); refine goesL_ (some 45) rfl rfl Try.func21 (by kernel_rfl) rfl #[.pointer (some ⟨gb118, 0, none⟩), .string (a0.extract (x8_1 : Int).toNat ((wrap64 (x8_1 + 1)) : Int).toNat)] rfl (by (try simp only [List.map_toArray, List.map_cons, List.map_nil]); first | done | rfl | (simp only [List.length_drop, List.length_take]; rfl) | (simp only [ByteArray.size_extract, Nat.min_self]; done) | (simp only [ByteArray.size_extract, Nat.min_self]; rfl)) ?_; (with_reducible refine (strings_Builder_WriteString.calls gb118 x119000_1 (a0.extract (x8_1 : Int).toNat ((wrap64 (x8_1 + 1)) : Int).toNat) t131 t132 t133 w _ ?side1 ?side2 A23.out).mono ?_); (case side1 => repeat (first | (with_reducible first | exact HI118.out | apply IsS102.alloc | apply IsS102.drewN | apply IsS102.drew | apply IsS102.set_0) | exact HI118.out)); (case side2 => repeat (first | (with_reducible first | exact HB.out | apply below_alloc | apply pw_below_drewN | apply below_drew1 | refine below_set ?_ (IsS102.ge HI118.out)) | exact HB.out)); rintro e w25 ⟨rfl, hi, hb, hk⟩; refine ⟨_, rfl, ?_⟩; have n0_ := Aside0.mk (R_keepE (e := 5) (IsS102.apart (show IsS102 w _ gb118 x119000_1 from by repeat (first | (with_reducible first | exact HI118.out | apply IsS102.alloc | apply IsS102.drewN | apply IsS102.drew | apply IsS102.set_0) | exact HI118.out)) (by (with_reducible repeat (first | apply Kd.R_alloc | apply Kd.R_drewN | apply Kd.R_drew)); exact HO_6.out) (by decide)) hk (by decide)); have n1_ := Aside0.mk (hb); have n2_ := Aside0.mk (hi); clear HO_6; clear HB; clear HI118; have HO_6 := n0_; have HB := n1_; have HI118 := n2_; clear n0_ n1_ n2_; (try clear hb); (try clear hb2); (try clear hk); (try clear hi); (try simp only [errW_none, errW_some])))
                      go_roundg k1
                      case measure => have := HK1.out; omega
                      case rel => exact ⟨(x6_1), (wrap64 (x8_1 + 1)), (t133), (by first | rfl | (simp; done) | (simp [*]; done)), H', ⟨by have := HK1.out; omega⟩, ⟨by (with_reducible repeat (first | apply Kd.R_alloc | apply Kd.R_drewN | apply Kd.R_drew)); exact HO_6.out⟩, ⟨by repeat (first | (with_reducible first | exact HI118.out | apply IsS102.alloc | apply IsS102.drewN | apply IsS102.drew | apply IsS102.set_0) | exact HI118.out)⟩, ⟨by repeat (first | (with_reducible first | exact HB.out | apply below_alloc | apply pw_below_drewN | apply below_drew1 | refine below_set ?_ (IsS102.ge HI118.out)) | exact HB.out)⟩⟩
                  · rw [if_neg c15] at H
                    exact absurd H (by simp)
                · rw [if_neg c14] at H
                  exact absurd H (by simp)
              · rw [if_neg c12] at H
                have c12b0 : (t124 == 0) = false := beq_eq_false_iff_ne.mpr c12
                have c12b1 : (t124 != 0) = true := bne_iff_ne.mpr c12
                replace H := Option.bind_eq_some_iff.mp H
                obtain ⟨⟨t134, t135, t136⟩, A260, H⟩ := H
                replace H : (quote_double_tell.l0 k1 x6_1 a0 (wrap64 (x8_1 + t124)) t136) = some (r1, r2, r3) := H
                have A26 := Aside0.mk A260
                clear A260
                have H' := Aside0.mk H
                clear H
                have p5 : 0 ≤ (x8_1 : Int) := of_decide_eq_true (by first | (with_reducible assumption) | assumption)
                have q5 : x8_1 < (a0.size : Int) := of_decide_eq_true (by first | (with_reducible assumption) | assumption)
                have hx5 := bt_at a0 x8_1
                replace p5 := eq_true p5
                replace q5 := eq_true q5
                go_wp2_with (first | ((with_reducible refine gate_callee (f := 73) rfl ?_); refine goesL_ (some 26) rfl rfl Try.func73 (by kernel_rfl) rfl #[.string (a0.extract (x8_1 : Int).toNat a0.size)] rfl (by (try simp only [List.map_toArray, List.map_cons, List.map_nil]); first | done | rfl | (simp only [List.length_drop, List.length_take]; rfl) | (simp only [ByteArray.size_extract, Nat.min_self]; done) | (simp only [ByteArray.size_extract, Nat.min_self]; rfl)) ?_; (with_reducible refine (chars_Escape.calls k1 (a0.extract (x8_1 : Int).toNat a0.size) t123 t124 _ A11.out).mono ?_); rintro e w27 ⟨rfl, hb⟩; refine ⟨_, rfl, ?_⟩; have n0_ := Aside0.mk (Kd.R_below (by (with_reducible repeat (first | apply Kd.R_alloc | apply Kd.R_drewN | apply Kd.R_drew)); exact HO_6.out) hb); have n1_ := Aside0.mk (IsS102.below (by repeat (first | (with_reducible first | exact HI118.out | apply IsS102.alloc | apply IsS102.drewN | apply IsS102.drew | apply IsS102.set_0) | exact HI118.out)) hb); have n2_ := Aside0.mk (below_step (by repeat (first | (with_reducible first | exact HB.out | apply below_alloc | apply pw_below_drewN | apply below_drew1 | refine below_set ?_ (IsS102.ge HI118.out)) | exact HB.out)) hb); clear HO_6; clear HI118; clear HB; have HO_6 := n0_; have HI118 := n1_; have HB := n2_; clear n0_ n1_ n2_; (try clear hb); (try clear hb2); (try clear hk); (try clear hi)) | ((with_reducible refine gate_callee (f := 21) rfl ?_); refine goesL_ (some 45) rfl rfl Try.func21 (by kernel_rfl) rfl #[.pointer (some ⟨gb118, 0, none⟩), .string t123] rfl (by (try simp only [List.map_toArray, List.map_cons, List.map_nil]); first | done | rfl | (simp only [List.length_drop, List.length_take]; rfl) | (simp only [ByteArray.size_extract, Nat.min_self]; done) | (simp only [ByteArray.size_extract, Nat.min_self]; rfl)) ?_; (with_reducible refine (strings_Builder_WriteString.calls gb118 x119000_1 t123 t134 t135 t136 w _ ?side1 ?side2 A26.out).mono ?_); (case side1 => repeat (first | (with_reducible first | exact HI118.out | apply IsS102.alloc | apply IsS102.drewN | apply IsS102.drew | apply IsS102.set_0) | exact HI118.out)); (case side2 => repeat (first | (with_reducible first | exact HB.out | apply below_alloc | apply pw_below_drewN | apply below_drew1 | refine below_set ?_ (IsS102.ge HI118.out)) | exact HB.out)); rintro e w28 ⟨rfl, hi, hb, hk⟩; refine ⟨_, rfl, ?_⟩; have n0_ := Aside0.mk (R_keepE (e := 5) (IsS102.apart (show IsS102 w _ gb118 x119000_1 from by repeat (first | (with_reducible first | exact HI118.out | apply IsS102.alloc | apply IsS102.drewN | apply IsS102.drew | apply IsS102.set_0) | exact HI118.out)) (by (with_reducible repeat (first | apply Kd.R_alloc | apply Kd.R_drewN | apply Kd.R_drew)); exact HO_6.out) (by decide)) hk (by decide)); have n1_ := Aside0.mk (hb); have n2_ := Aside0.mk (hi); clear HO_6; clear HB; clear HI118; have HO_6 := n0_; have HB := n1_; have HI118 := n2_; clear n0_ n1_ n2_; (try clear hb); (try clear hb2); (try clear hk); (try clear hi); (try simp only [errW_none, errW_some])))
                go_roundg k1
                case measure => have := HK1.out; omega
                case rel => exact ⟨(x6_1), (wrap64 (x8_1 + t124)), (t136), (by first | rfl | (simp; done) | (simp [*]; done)), H', ⟨by have := HK1.out; omega⟩, ⟨by (with_reducible repeat (first | apply Kd.R_alloc | apply Kd.R_drewN | apply Kd.R_drew)); exact HO_6.out⟩, ⟨by repeat (first | (with_reducible first | exact HI118.out | apply IsS102.alloc | apply IsS102.drewN | apply IsS102.drew | apply IsS102.set_0) | exact HI118.out)⟩, ⟨by repeat (first | (with_reducible first | exact HB.out | apply below_alloc | apply pw_below_drewN | apply below_drew1 | refine below_set ?_ (IsS102.ge HI118.out)) | exact HB.out)⟩⟩
            · rw [if_neg c10] at H
              exact absurd H (by simp)
        · rw [if_neg c4] at H
          exact absurd H (by simp)
      · rw [if_neg c3] at H
        have c3b0 : decide (x8_1 < (a0.size : Int)) = false := decide_eq_false c3
        clear c3
        replace H := Option.bind_eq_some_iff.mp H
        obtain ⟨⟨t119, t120⟩, A290, H⟩ := H
        replace H : (some (t119, x6_1, false)) = some (r1, r2, r3) := H
        have A29 := Aside0.mk A290
        clear A290
        simp only [Option.some.injEq, Prod.mk.injEq] at H
        obtain ⟨rfl, rfl, rfl⟩ := H
        go_wp2_with (first | ((with_reducible refine gate_callee (f := 23) rfl ?_); refine goesL_ (some 49) rfl rfl Try.func23 (by kernel_rfl) rfl #[.pointer (some ⟨gb118, 0, none⟩)] rfl (by (try simp only [List.map_toArray, List.map_cons, List.map_nil]); first | done | rfl | (simp only [List.length_drop, List.length_take]; rfl) | (simp only [ByteArray.size_extract, Nat.min_self]; done) | (simp only [ByteArray.size_extract, Nat.min_self]; rfl)) ?_; (with_reducible refine (strings_Builder_String.calls gb118 x119000_1 t119 t120 w _ ?side1 ?side2 A29.out).mono ?_); (case side1 => repeat (first | (with_reducible first | exact HI118.out | apply IsS102.alloc | apply IsS102.drewN | apply IsS102.drew | apply IsS102.set_0) | exact HI118.out)); (case side2 => repeat (first | (with_reducible first | exact HB.out | apply below_alloc | apply pw_below_drewN | apply below_drew1 | refine below_set ?_ (IsS102.ge HI118.out)) | exact HB.out)); rintro e w30 ⟨rfl, hi, hb, hk⟩; refine ⟨_, rfl, ?_⟩; have n0_ := Aside0.mk (R_keepE (e := 5) (IsS102.apart (show IsS102 w _ gb118 x119000_1 from by repeat (first | (with_reducible first | exact HI118.out | apply IsS102.alloc | apply IsS102.drewN | apply IsS102.drew | apply IsS102.set_0) | exact HI118.out)) (by (with_reducible repeat (first | apply Kd.R_alloc | apply Kd.R_drewN | apply Kd.R_drew)); exact HO_6.out) (by decide)) hk (by decide)); have n1_ := Aside0.mk (hb); have n2_ := Aside0.mk (hi); clear HO_6; clear HB; clear HI118; have HO_6 := n0_; have HB := n1_; have HI118 := n2_; clear n0_ n1_ n2_; (try clear hb); (try clear hb2); (try clear hk); (try clear hi)))
        go_ret3
        exact ⟨_, by first | rfl | (simp [errW_none, errW_some] <;> rfl) | (simp [*, errW_none, errW_some] <;> rfl), by (with_reducible repeat (first | apply Kd.R_alloc | apply Kd.R_drewN | apply Kd.R_drew)); exact HO_6.out, by repeat (first | (with_reducible first | exact HB.out | apply below_alloc | apply pw_below_drewN | apply below_drew1 | refine below_set ?_ (IsS102.ge HI118.out)) | exact HB.out)⟩

/-! ### quote_Text: function 11 (by hand) -/
def quote_Text.f (k : Nat) (a0 : Int) (a1 : ByteArray) : Option (ByteArray × List Int × Bool) :=
  if a0 = 15 then (if a1.toList = ([] : List UInt8) then some ((⟨#[]⟩ : ByteArray), [], false) else some (a1, [], true))
  else if a0 = 16 then (if a1.toList = ([] : List UInt8) then some ((⟨#[]⟩ : ByteArray), [], false) else (quote_single_tell.f k a1).bind fun b => if b.2.1.length < 17592186044416 then some b else none)
  else if a0 = 17 then (if a1.toList = ([] : List UInt8) then some ((⟨#[]⟩ : ByteArray), [], false) else (quote_double_tell.f k a1).bind fun b => if b.2.1.length < 17592186044416 then some b else none)
  else some ((⟨#[]⟩ : ByteArray), [], false)
theorem quote_Text.mono : ∀ a0 a1 k, LeO (quote_Text.f k a0 a1) (quote_Text.f (k + 1) a0 a1) := by
  intro a0 a1 k
  unfold quote_Text.f
  repeat' first
    | exact quote_single_tell.mono _ _
    | exact quote_double_tell.mono _ _
    | exact LeO.refl _
    | refine LeO.ite ?_ ?_
    | refine LeO.bind ?_ (fun _ => ?_)
section
set_option maxHeartbeats 4000000
set_option maxRecDepth 100000
theorem quote_Text.has (T : Nat) (hT : (Try.prog.info? T).map (fun i => (lacking (match Try.prog.underlying 41 with | some (.interface m) => m | _ => #[]) i.methods).isEmpty) = some true) (v : Value) (w : World) : (Instr.typeAssert (.iface T v) 20 41 true).run Try.prog w = .ok (.tuple #[.iface T v, .bool true]) w :=
  run_typeAssert_hasB Try.underlying41 (by rw [Try.underlying41] at hT; exact hT) v 20 w
theorem quote_Text.none_ (w : World) : (Instr.typeAssert .nilIface 20 41 true).run Try.prog w = .ok (.tuple #[.nilIface, .bool false]) w := by kernel_rfl
theorem quote_Text.other (a0 : Int) (a1 : ByteArray) (w : World) (h1 : a0 ≠ 15) (h2 : a0 ≠ 16) (h3 : a0 ≠ 17) :
    Calls Try.prog 11 #[.int .i64 a0, .string a1] w fun e w' => ∃ v1_ : Value, e = .returned (.tuple #[.string ⟨#[]⟩, v1_, .bool false]) ∧ Kd.R (Kd.int .i64) 3 w' w.heap.size (fun _ => True) v1_ [] ∧ Below w.heap.size w w' := by
  have b1 : (a0 == 15) = false := beq_eq_false_iff_ne.mpr h1
  have b2 : (a0 == 16) = false := beq_eq_false_iff_ne.mpr h2
  have b3 : (a0 == 17) = false := beq_eq_false_iff_ne.mpr h3
  have hn := quote_Text.none_
  go_enter Try.func11, Try.ntmps11
  go_wp2
  go_ret3
  exact ⟨_, rfl, Kd.R_nil _ _ _ _ _, Below.refl _ _⟩
theorem quote_Text.empty (a0 : Int) (a1 : ByteArray) (w : World) (h0 : a1.toList = []) :
    Calls Try.prog 11 #[.int .i64 a0, .string a1] w fun e w' => ∃ v1_ : Value, e = .returned (.tuple #[.string ⟨#[]⟩, v1_, .bool false]) ∧ Kd.R (Kd.int .i64) 3 w' w.heap.size (fun _ => True) v1_ [] ∧ Below w.heap.size w w' := by
  by_cases h1 : a0 = 15
  · subst h1
    have hta := quote_Text.has 64 (by kernel_rfl)
    have hc : (a1.toList == ([] : List UInt8)) = true := beq_iff_eq.mpr h0
    have hc2 : (a1.toList.isEmpty) = true := by rw [h0]; rfl
    go_enter Try.func11, Try.ntmps11
    go_wp2
    go_ret3
    exact ⟨_, rfl, Kd.R_nil _ _ _ _ _, Below.refl _ _⟩
  by_cases h2 : a0 = 16
  · subst h2
    have hta := quote_Text.has 65 (by kernel_rfl)
    have hc : (a1.toList == ([] : List UInt8)) = true := beq_iff_eq.mpr h0
    have hc2 : (a1.toList.isEmpty) = true := by rw [h0]; rfl
    go_enter Try.func11, Try.ntmps11
    go_wp2
    go_ret3
    exact ⟨_, rfl, Kd.R_nil _ _ _ _ _, Below.refl _ _⟩
  by_cases h3 : a0 = 17
  · subst h3
    have hta := quote_Text.has 66 (by kernel_rfl)
    have hc : (a1.toList == ([] : List UInt8)) = true := beq_iff_eq.mpr h0
    have hc2 : (a1.toList.isEmpty) = true := by rw [h0]; rfl
    go_enter Try.func11, Try.ntmps11
    go_wp2
    go_ret3
    exact ⟨_, rfl, Kd.R_nil _ _ _ _ _, Below.refl _ _⟩
  exact quote_Text.other a0 a1 w h1 h2 h3
theorem quote_Text.plain_tell (a1 : ByteArray) (w : World) : Calls Try.prog 70 #[.string a1] w fun e w' => e = .returned (.tuple #[.string a1, .slice none 0 0, .bool true]) ∧ w' = w := by
  go_enter Try.func70, Try.ntmps70
  go_wp2
  go_ret3
  exact ⟨rfl, rfl⟩
theorem quote_Text.plain (a1 : ByteArray) (w : World) (h0 : a1.toList ≠ []) :
    Calls Try.prog 11 #[.int .i64 15, .string a1] w fun e w' => ∃ v1_ : Value, e = .returned (.tuple #[.string a1, v1_, .bool true]) ∧ Kd.R (Kd.int .i64) 3 w' w.heap.size (fun _ => True) v1_ [] ∧ Below w.heap.size w w' := by
  have hta := quote_Text.has 64 (by kernel_rfl)
  have hm : ∀ (v : Value) (w : World), (method 201 64 v "corrector/quote.tell").run Try.prog w = .ok (70, v) w := fun v w => by kernel_rfl
  have hc : (a1.toList == ([] : List UInt8)) = false := beq_eq_false_iff_ne.mpr h0
  have hc2 : (a1.toList.isEmpty) = false := by rw [Bool.eq_false_iff]; exact fun e => h0 (List.isEmpty_iff.1 e)
  go_enter Try.func11, Try.ntmps11
  go_wp2_with (first | (go_at_call 70; (with_reducible refine (quote_Text.plain_tell a1 _).mono ?_); rintro e w1 ⟨rfl, rfl⟩) | ((with_reducible refine gate_builtin (b := .append) (xs := #[.const (.slice none 0 0), .tmp 29]) rfl ?_); at_builtin; refine Kd.R_append_rows (Kd.int .i64) (w0 := w1) w1.heap.size rfl (.const (.slice none 0 0)) (.tmp 29) 22 3 (.int .i64 0) 8 rfl Try.underlying22 info3 rfl (by decide) (by omega) (.slice none 0 0) ([] : List Int) ([] : List Int) _ _ _ (fun _ => True) (fun _ => False) rfl rfl ?aO ?aR (fun _ _ h => h) (fun _ h => h.elim) ?aF ?aB ?aS ?aL ?_; (case aR => exact Kd.C_nil _ _); (case aB => exact Below.refl _ _); (case aF => exact (fun _ _ => trivial)); (case aO => exact (Kd.R_nil _ _ _ _ _)); (case aS => exact Nat.le_refl _); (case aL => simp); intro v2 w2 ho hb hg hat; rw [List.nil_append] at ho; have HO2 := Aside0.mk ho; have HB2 := Aside0.mk hb; clear ho hb hg hat) | go_in)
  go_ret3
  exact ⟨_, rfl, HO2.out, HB2.out⟩
theorem quote_Text.single (k : Nat) (a1 : ByteArray) (r1 : ByteArray) (r2 : List Int) (r3 : Bool) (w : World) (h0 : a1.toList ≠ []) (h : quote_single_tell.f k a1 = some (r1, r2, r3)) (hl : r2.length < 17592186044416) :
    Calls Try.prog 11 #[.int .i64 16, .string a1] w fun e w' => ∃ v1_ : Value, e = .returned (.tuple #[.string r1, v1_, .bool r3]) ∧ Kd.R (Kd.int .i64) 3 w' w.heap.size (fun _ => True) v1_ r2 ∧ Below w.heap.size w w' := by
  have A := Aside0.mk h
  have LM := Aside0.mk hl
  clear h hl
  have hta := quote_Text.has 65 (by kernel_rfl)
  have hm : ∀ (v : Value) (w : World), (method 201 65 v "corrector/quote.tell").run Try.prog w = .ok (71, v) w := fun v w => by kernel_rfl
  have hc : (a1.toList == ([] : List UInt8)) = false := beq_eq_false_iff_ne.mpr h0
  have hc2 : (a1.toList.isEmpty) = false := by rw [Bool.eq_false_iff]; exact fun e => h0 (List.isEmpty_iff.1 e)
  go_enter Try.func11, Try.ntmps11
  go_wp2_with (first | (go_at_call 71; (with_reducible refine (quote_single_tell.calls k a1 r1 r2 r3 _ A.out).mono ?_); rintro e w1 ⟨v1, rfl, ho1, hb⟩; have HO := Aside0.mk ho1; have HB := Aside0.mk hb; clear ho1 hb; obtain ⟨Ao, co, eo⟩ := Kd.R_slice HO.out; subst eo) | ((with_reducible refine gate_builtin (b := .append) (xs := #[.const (.slice none 0 0), .tmp 29]) rfl ?_); at_builtin; refine Kd.R_append_rows (Kd.int .i64) (w0 := w) w.heap.size rfl (.const (.slice none 0 0)) (.tmp 29) 22 3 (.int .i64 0) 8 rfl Try.underlying22 info3 rfl (by decide) (by omega) (.slice none 0 0) ([] : List Int) r2 _ _ _ (fun _ => True) (fun _ => False) rfl rfl ?aO ?aR (fun _ _ h => h) (fun _ h => h.elim) ?aF ?aB ?aS ?aL ?_; (case aR => exact (Kd.R_reads' HO.out).2.2); (case aB => exact HB.out); (case aF => exact (fun _ _ => trivial)); (case aO => exact (Kd.R_nil _ _ _ _ _)); (case aS => exact HB.out.size); (case aL => have := LM.out; simp only [List.length_nil]; omega); intro v2 w2 ho hb hg hat; rw [List.nil_append] at ho; have HO2 := Aside0.mk ho; have HB2 := Aside0.mk hb; clear ho hb hg hat HO HB) | go_in)
  go_ret3
  exact ⟨_, rfl, HO2.out, HB2.out⟩
theorem quote_Text.double (k : Nat) (a1 : ByteArray) (r1 : ByteArray) (r2 : List Int) (r3 : Bool) (w : World) (h0 : a1.toList ≠ []) (h : quote_double_tell.f k a1 = some (r1, r2, r3)) (hl : r2.length < 17592186044416) :
    Calls Try.prog 11 #[.int .i64 17, .string a1] w fun e w' => ∃ v1_ : Value, e = .returned (.tuple #[.string r1, v1_, .bool r3]) ∧ Kd.R (Kd.int .i64) 3 w' w.heap.size (fun _ => True) v1_ r2 ∧ Below w.heap.size w w' := by
  have A := Aside0.mk h
  have LM := Aside0.mk hl
  clear h hl
  have hta := quote_Text.has 66 (by kernel_rfl)
  have hm : ∀ (v : Value) (w : World), (method 201 66 v "corrector/quote.tell").run Try.prog w = .ok (72, v) w := fun v w => by kernel_rfl
  have hc : (a1.toList == ([] : List UInt8)) = false := beq_eq_false_iff_ne.mpr h0
  have hc2 : (a1.toList.isEmpty) = false := by rw [Bool.eq_false_iff]; exact fun e => h0 (List.isEmpty_iff.1 e)
  go_enter Try.func11, Try.ntmps11
  go_wp2_with (first | (go_at_call 72; (with_reducible refine (quote_double_tell.calls k a1 r1 r2 r3 _ A.out).mono ?_); rintro e w1 ⟨v1, rfl, ho1, hb⟩; have HO := Aside0.mk ho1; have HB := Aside0.mk hb; clear ho1 hb; obtain ⟨Ao, co, eo⟩ := Kd.R_slice HO.out; subst eo) | ((with_reducible refine gate_builtin (b := .append) (xs := #[.const (.slice none 0 0), .tmp 29]) rfl ?_); at_builtin; refine Kd.R_append_rows (Kd.int .i64) (w0 := w) w.heap.size rfl (.const (.slice none 0 0)) (.tmp 29) 22 3 (.int .i64 0) 8 rfl Try.underlying22 info3 rfl (by decide) (by omega) (.slice none 0 0) ([] : List Int) r2 _ _ _ (fun _ => True) (fun _ => False) rfl rfl ?aO ?aR (fun _ _ h => h) (fun _ h => h.elim) ?aF ?aB ?aS ?aL ?_; (case aR => exact (Kd.R_reads' HO.out).2.2); (case aB => exact HB.out); (case aF => exact (fun _ _ => trivial)); (case aO => exact (Kd.R_nil _ _ _ _ _)); (case aS => exact HB.out.size); (case aL => have := LM.out; simp only [List.length_nil]; omega); intro v2 w2 ho hb hg hat; rw [List.nil_append] at ho; have HO2 := Aside0.mk ho; have HB2 := Aside0.mk hb; clear ho hb hg hat HO HB) | go_in)
  go_ret3
  exact ⟨_, rfl, HO2.out, HB2.out⟩
end
theorem quote_Text.calls (k : Nat) (a0 : Int) (a1 : ByteArray) (r1 : ByteArray) (r2 : List Int) (r3 : Bool) (w : World) (h : quote_Text.f k a0 a1 = some (r1, r2, r3)) :
    Calls Try.prog 11 #[.int .i64 a0, .string a1] w fun e w' => ∃ v1_ : Value, e = .returned (.tuple #[.string r1, v1_, .bool r3]) ∧ Kd.R (Kd.int .i64) 3 w' w.heap.size (fun _ => True) v1_ r2 ∧ Below w.heap.size w w' := by
  unfold quote_Text.f at h
  by_cases h0 : a1.toList = []
  · have hh : r1 = ⟨#[]⟩ ∧ r2 = [] ∧ r3 = false := by
      simp only [if_pos h0] at h
      have : some ((⟨#[]⟩ : ByteArray), ([] : List Int), false) = some (r1, r2, r3) := by
        rw [← h]
        repeat' split
        all_goals rfl
      simp only [Option.some.injEq, Prod.mk.injEq] at this
      exact ⟨this.1.symm, this.2.1.symm, this.2.2.symm⟩
    obtain ⟨rfl, rfl, rfl⟩ := hh
    exact quote_Text.empty a0 a1 w h0
  simp only [if_neg h0] at h
  by_cases h1 : a0 = 15
  · rw [if_pos h1] at h
    simp only [Option.some.injEq, Prod.mk.injEq] at h
    obtain ⟨rfl, rfl, rfl⟩ := h
    subst h1
    exact quote_Text.plain a1 w h0
  rw [if_neg h1] at h
  by_cases h2 : a0 = 16
  · rw [if_pos h2] at h
    obtain ⟨⟨q1, q2, q3⟩, hq, h⟩ := Option.bind_eq_some_iff.mp h
    by_cases hl : q2.length < 17592186044416
    · rw [if_pos hl] at h
      simp only [Option.some.injEq, Prod.mk.injEq] at h
      obtain ⟨rfl, rfl, rfl⟩ := h
      subst h2
      exact quote_Text.single k a1 _ _ _ w h0 hq hl
    · rw [if_neg hl] at h; cases h
  rw [if_neg h2] at h
  by_cases h3 : a0 = 17
  · rw [if_pos h3] at h
    obtain ⟨⟨q1, q2, q3⟩, hq, h⟩ := Option.bind_eq_some_iff.mp h
    by_cases hl : q2.length < 17592186044416
    · rw [if_pos hl] at h
      simp only [Option.some.injEq, Prod.mk.injEq] at h
      obtain ⟨rfl, rfl, rfl⟩ := h
      subst h3
      exact quote_Text.double k a1 _ _ _ w h0 hq hl
    · rw [if_neg hl] at h; cases h
  rw [if_neg h3] at h
  simp only [Option.some.injEq, Prod.mk.injEq] at h
  obtain ⟨rfl, rfl, rfl⟩ := h
  exact quote_Text.other a0 a1 w h1 h2 h3

/-! ### quote_digit: function 32 -/
def quote_digit.l0 : Nat → Int → ByteArray → Int → Option (Int)
  | 0, _, _, _ => none
  | k + 1, x0, x258000, x258001 => if 0 ≤ x258001 then (if x258001 < (x258000.size : Int) then (if x258001 = x0 then (some (rdRune x258000 x258001)) else (quote_digit.l0 k x0 x258000 (rdNext x258000 x258001))) else (some 0)) else (none)
def quote_digit.f (k : Nat) (a0 : Int) : Option (Int) := quote_digit.l0 k a0 (⟨#[48, 49, 50, 51, 52, 53, 54, 55, 56, 57, 97, 98, 99, 100, 101, 102]⟩ : ByteArray) 0
theorem quote_digit.mono_l : ∀ k, (∀ y0 y1 y2, LeO (quote_digit.l0 k y0 y1 y2) (quote_digit.l0 (k + 1) y0 y1 y2))
  | 0 => fun _ _ _ r h => by simp [quote_digit.l0] at h
  | k + 1 => by
    have ih0 := quote_digit.mono_l k
    · intro y0 y1 y2
      unfold quote_digit.l0
      repeat' first
      | (with_reducible exact ih0 _ _ _)
      | (with_reducible exact LeO.refl _)
      | (with_reducible exact LeO.none _)
      | (with_reducible refine LeO.ite ?_ ?_)
      | (with_reducible refine LeO.bind ?_ (fun _ => ?_))
      | exact ih0 _ _ _
      | exact LeO.none _
      | refine LeO.ite ?_ ?_
      | refine LeO.bind ?_ (fun _ => ?_)
theorem quote_digit.mono : ∀ a0 k, LeO (quote_digit.f k a0) (quote_digit.f (k + 1) a0) := by
  intro a0 k
  have ih0 := quote_digit.mono_l k
  unfold quote_digit.f
  repeat' first
      | (with_reducible exact ih0 _ _ _)
      | (with_reducible exact LeO.refl _)
      | (with_reducible exact LeO.none _)
      | (with_reducible refine LeO.ite ?_ ?_)
      | (with_reducible refine LeO.bind ?_ (fun _ => ?_))
      | exact ih0 _ _ _
      | exact LeO.none _
      | refine LeO.ite ?_ ?_
      | refine LeO.bind ?_ (fun _ => ?_)
set_option maxHeartbeats 8000000 in
set_option maxRecDepth 100000 in
theorem quote_digit.calls (k : Nat) (a0 : Int) (r : Int) (w : World) (h : quote_digit.f k a0 = some r) :
    Calls Try.prog 32 #[.int .i64 a0] w fun e w' => e = .returned (.int .i32 r) ∧ Below w.heap.size w w' := by
  have HB := Aside0.mk (Below.refl w.heap.size w)
  have H : (quote_digit.l0 k a0 (⟨#[48, 49, 50, 51, 52, 53, 54, 55, 56, 57, 97, 98, 99, 100, 101, 102]⟩ : ByteArray) 0) = some r := h
  clear h
  have H' := Aside0.mk H
  clear H
  go_enter Try.func32, Try.ntmps32
  go_wp2_with (first | ((with_reducible refine gate_dst (N := 5) rfl ?_); refine iter_event ?hg (N := 5) ?hd (s := (⟨#[48, 49, 50, 51, 52, 53, 54, 55, 56, 57, 97, 98, 99, 100, 101, 102]⟩ : ByteArray)) ?hr ?_; (case hd => rfl); (case hg => rfl); (case hr => first | (go_simp; done) | (go_simp; rfl)); intro gb257 hg w2 hbox hb; have n0_ := Aside0.mk (below_step (by repeat (first | (with_reducible first | exact HB.out | apply below_alloc | apply pw_below_drewN | apply below_drew1) | exact HB.out)) hb); have n1_ := Aside0.mk (hbox); have n2_ := Aside0.mk ((by rw [hg]; exact (below_size (by repeat (first | (with_reducible first | exact HB.out | apply below_alloc | apply pw_below_drewN | apply below_drew1) | exact HB.out))) : w.heap.size ≤ gb257)); have n3_ := Aside0.mk ((by rw [hg]; exact (below_size (by repeat (first | (with_reducible first | exact HB.out | apply below_alloc | apply pw_below_drewN | apply below_drew1) | exact HB.out))) : w.heap.size ≤ gb257)); clear HB; have HB := n0_; have BK257 := n1_; have GW257 := n2_; have GE257 := n3_; clear n0_ n1_ n2_ n3_; clear hb hbox hg))
  (try simp only [Act.put, List.setIfInBounds_toArray, List.set_cons_zero, List.set_cons_succ])
  go_loopg [] k (fun kq w' => ∃ (x258001_1 : Int), Aside0 (quote_digit.l0 kq a0 (⟨#[48, 49, 50, 51, 52, 53, 54, 55, 56, 57, 97, 98, 99, 100, 101, 102]⟩ : ByteArray) x258001_1 = some r) ∧ Aside0 (kq ≤ k) ∧ Aside0 (w'.heap[gb257]? = some (.stringIter (⟨#[48, 49, 50, 51, 52, 53, 54, 55, 56, 57, 97, 98, 99, 100, 101, 102]⟩ : ByteArray) (x258001_1 : Int).toNat)) ∧ Aside0 (Below w.heap.size w w'))
  case atStart => exact ⟨(0), H', ⟨Nat.le_refl _⟩, ⟨by (with_reducible repeat (first | refine blk_drewN ?_ _ | refine blk_drew ?_ | refine blk_alloc ?_ _)); exact BK257.out⟩, ⟨by repeat (first | (with_reducible first | exact HB.out | apply below_alloc | apply pw_below_drewN | apply below_drew1 | refine below_set ?_ GE257.out) | exact HB.out)⟩⟩
  case round =>
    clear H'
    try clear p2
    obtain ⟨x258001_1, HA, HK1, BK257, HB⟩ := hrel
    cases gk with
    | zero => exact absurd HA.out (by simp [quote_digit.l0])
    | succ k1 =>
      have H := HA.out
      clear HA
      simp only [quote_digit.l0] at H
      by_cases c3 : 0 ≤ x258001_1
      · rw [if_pos c3] at H
        have c3b0 : decide (0 ≤ x258001_1) = true := decide_eq_true c3
        clear c3
        by_cases c4 : x258001_1 < ((⟨#[48, 49, 50, 51, 52, 53, 54, 55, 56, 57, 97, 98, 99, 100, 101, 102]⟩ : ByteArray).size : Int)
        · rw [if_pos c4] at H
          have c4b0 : decide (x258001_1 < ((⟨#[48, 49, 50, 51, 52, 53, 54, 55, 56, 57, 97, 98, 99, 100, 101, 102]⟩ : ByteArray).size : Int)) = true := decide_eq_true c4
          clear c4
          by_cases c5 : x258001_1 = a0
          · rw [if_pos c5] at H
            have c5b0 : (x258001_1 == a0) = true := beq_iff_eq.mpr c5
            have c5b1 : (x258001_1 != a0) = false := bne_eq_false_iff_eq.mpr c5
            clear c5
            obtain rfl := Option.some.inj H
            have pn6 : Aside0 (0 ≤ (x258001_1 : Int)) := ⟨of_decide_eq_true (by first | (with_reducible assumption) | assumption)⟩
            have qn6 : Aside0 (x258001_1 < 16) := ⟨of_decide_eq_true (by first | (with_reducible assumption) | assumption)⟩
            go_wp2_with (first | ((with_reducible refine gate_dst (N := 6) rfl ?_); refine next_event ?hg (N := 6) ?hd ?ho (x := .tmp 5) (g := gb257) (s := (⟨#[48, 49, 50, 51, 52, 53, 54, 55, 56, 57, 97, 98, 99, 100, 101, 102]⟩ : ByteArray)) (p := x258001_1) ?hx BK257.out pn6.out qn6.out ?_; (case hd => rfl); (case hg => rfl); (case ho => rfl); (case hx => rfl); intro w7 hit hg; have n0_ := Aside0.mk (hit); have n1_ := Aside0.mk (pw_below_grown (by repeat (first | (with_reducible first | exact HB.out | apply below_alloc | apply pw_below_drewN | apply below_drew1 | refine below_set ?_ GE257.out) | exact HB.out)) (some gb257) ((below_size (by repeat (first | (with_reducible first | exact HB.out | apply below_alloc | apply pw_below_drewN | apply below_drew1 | refine below_set ?_ GE257.out) | exact HB.out)))) hg (fun k_ e_ => by injection e_ with e_; subst e_; exact GW257.out)); clear BK257; clear HB; have BK257 := n0_; have HB := n1_; clear n0_ n1_; clear hit hg))
            go_ret
            exact ⟨by first | rfl | (simp [errW_none, errW_some] <;> rfl) | (simp [*, errW_none, errW_some] <;> rfl), by repeat (first | (with_reducible first | exact HB.out | apply below_alloc | apply pw_below_drewN | apply below_drew1 | refine below_set ?_ GE257.out) | exact HB.out)⟩
          · rw [if_neg c5] at H
            have c5b0 : (x258001_1 == a0) = false := beq_eq_false_iff_ne.mpr c5
            have c5b1 : (x258001_1 != a0) = true := bne_iff_ne.mpr c5
            have H' := Aside0.mk H
            clear H
            have pn8 : Aside0 (0 ≤ (x258001_1 : Int)) := ⟨of_decide_eq_true (by first | (with_reducible assumption) | assumption)⟩
            have qn8 : Aside0 (x258001_1 < 16) := ⟨of_decide_eq_true (by first | (with_reducible assumption) | assumption)⟩
            go_wp2_with (first | ((with_reducible refine gate_dst (N := 6) rfl ?_); refine next_event ?hg (N := 6) ?hd ?ho (x := .tmp 5) (g := gb257) (s := (⟨#[48, 49, 50, 51, 52, 53, 54, 55, 56, 57, 97, 98, 99, 100, 101, 102]⟩ : ByteArray)) (p := x258001_1) ?hx BK257.out pn8.out qn8.out ?_; (case hd => rfl); (case hg => rfl); (case ho => rfl); (case hx => rfl); intro w9 hit hg; have n0_ := Aside0.mk (hit); have n1_ := Aside0.mk (pw_below_grown (by repeat (first | (with_reducible first | exact HB.out | apply below_alloc | apply pw_below_drewN | apply below_drew1 | refine below_set ?_ GE257.out) | exact HB.out)) (some gb257) ((below_size (by repeat (first | (with_reducible first | exact HB.out | apply below_alloc | apply pw_below_drewN | apply below_drew1 | refine below_set ?_ GE257.out) | exact HB.out)))) hg (fun k_ e_ => by injection e_ with e_; subst e_; exact GW257.out)); clear BK257; clear HB; have BK257 := n0_; have HB := n1_; clear n0_ n1_; clear hit hg))
            go_roundg k1
            case measure => have := HK1.out; omega
            case rel => exact ⟨(rdNext (⟨#[48, 49, 50, 51, 52, 53, 54, 55, 56, 57, 97, 98, 99, 100, 101, 102]⟩ : ByteArray) x258001_1), H', ⟨by have := HK1.out; omega⟩, ⟨by (with_reducible repeat (first | refine blk_drewN ?_ _ | refine blk_drew ?_ | refine blk_alloc ?_ _)); exact BK257.out⟩, ⟨by repeat (first | (with_reducible first | exact HB.out | apply below_alloc | apply pw_below_drewN | apply below_drew1 | refine below_set ?_ GE257.out) | exact HB.out)⟩⟩
        · rw [if_neg c4] at H
          have c4b0 : decide (x258001_1 < ((⟨#[48, 49, 50, 51, 52, 53, 54, 55, 56, 57, 97, 98, 99, 100, 101, 102]⟩ : ByteArray).size : Int)) = false := decide_eq_false c4
          clear c4
          obtain rfl := Option.some.inj H
          have hnx10 := next_end (P := Try.prog) (s := (⟨#[48, 49, 50, 51, 52, 53, 54, 55, 56, 57, 97, 98, 99, 100, 101, 102]⟩ : ByteArray)) (p := x258001_1) BK257.out (of_decide_eq_false (by first | (with_reducible assumption) | assumption))
          go_wp2
          go_ret
          exact ⟨by first | rfl | (simp [errW_none, errW_some] <;> rfl) | (simp [*, errW_none, errW_some] <;> rfl), by repeat (first | (with_reducible first | exact HB.out | apply below_alloc | apply pw_below_drewN | apply below_drew1 | refine below_set ?_ GE257.out) | exact HB.out)⟩
      · rw [if_neg c3] at H
        exact absurd H (by simp)

/-! ### quote_sign: function 22 -/
def quote_sign.j0 : Nat → Int → Int → Bool → Option (ByteArray)
  | 0, _, _, _ => none
  | k + 1, x0, x3, x4 => if x4 = true then (if 1 + (Utf8.encode (wrap32 (x0))).size ≤ 9223372036854775807 then (some ((⟨#[92]⟩ : ByteArray) ++ (Utf8.encode (wrap32 (x0))))) else (none)) else (if x3 = 0 then (some (⟨#[92, 48]⟩ : ByteArray)) else (if x3 = 9 then (some (⟨#[92, 116]⟩ : ByteArray)) else (if x3 = 10 then (some (⟨#[92, 110]⟩ : ByteArray)) else (if x3 = 13 then (some (⟨#[92, 114]⟩ : ByteArray)) else (if x0 < 32 then ((quote_digit.f k ((Int.tdiv x0 16) % 256)).bind fun t258 => (if 2 + (Utf8.encode t258).size ≤ 9223372036854775807 then ((quote_digit.f k (wrap64 (Int.tmod x0 16))).bind fun t259 => (if ((⟨#[92, 120]⟩ : ByteArray) ++ (Utf8.encode t258)).size + (Utf8.encode t259).size ≤ 9223372036854775807 then (some (((⟨#[92, 120]⟩ : ByteArray) ++ (Utf8.encode t258)) ++ (Utf8.encode t259))) else (none))) else (none))) else (some (strOfNums (([x0] : List Int)))))))))
def quote_sign.f (k : Nat) (a0 : Int) : Option (ByteArray) := if a0 = 34 then (quote_sign.j0 k a0 a0 (a0 == 34)) else (quote_sign.j0 k a0 a0 (a0 == 92))
theorem quote_sign.mono_l : ∀ k, (∀ y0 y1 y2, LeO (quote_sign.j0 k y0 y1 y2) (quote_sign.j0 (k + 1) y0 y1 y2))
  | 0 => fun _ _ _ r h => by simp [quote_sign.j0] at h
  | k + 1 => by
    have ih0 := quote_sign.mono_l k
    · intro y0 y1 y2
      unfold quote_sign.j0
      repeat' first
      | (with_reducible exact ih0 _ _ _)
      | (with_reducible exact quote_digit.mono _ _)
      | (with_reducible exact LeO.refl _)
      | (with_reducible exact LeO.none _)
      | (with_reducible refine LeO.ite ?_ ?_)
      | (with_reducible refine LeO.bind ?_ (fun _ => ?_))
      | exact ih0 _ _ _
      | exact quote_digit.mono _ _
      | exact LeO.none _
      | refine LeO.ite ?_ ?_
      | refine LeO.bind ?_ (fun _ => ?_)
theorem quote_sign.mono : ∀ a0 k, LeO (quote_sign.f k a0) (quote_sign.f (k + 1) a0) := by
  intro a0 k
  have ih0 := quote_sign.mono_l k
  unfold quote_sign.f
  repeat' first
      | (with_reducible exact ih0 _ _ _)
      | (with_reducible exact quote_digit.mono _ _)
      | (with_reducible exact LeO.refl _)
      | (with_reducible exact LeO.none _)
      | (with_reducible refine LeO.ite ?_ ?_)
      | (with_reducible refine LeO.bind ?_ (fun _ => ?_))
      | exact ih0 _ _ _
      | exact quote_digit.mono _ _
      | exact LeO.none _
      | refine LeO.ite ?_ ?_
      | refine LeO.bind ?_ (fun _ => ?_)
set_option maxHeartbeats 8000000 in
set_option maxRecDepth 100000 in
theorem quote_sign.calls (k : Nat) (a0 : Int) (r : ByteArray) (w : World) (h : quote_sign.f k a0 = some r) :
    Calls Try.prog 22 #[.int .u8 a0] w fun e w' => e = .returned (.string r) ∧ Below w.heap.size w w' := by
  have HB := Aside0.mk (Below.refl w.heap.size w)
  have H : (if a0 = 34 then (quote_sign.j0 k a0 a0 (a0 == 34)) else (quote_sign.j0 k a0 a0 (a0 == 92))) = some r := h
  clear h
  have HC2 := Aside0.mk H
  clear H
  go_enter Try.func22, Try.ntmps22
  go_upto_if 4 with (fail)
  go_cut [4] (fun v4 wc => ∃ (kq : Nat) (x4_1 : Bool), v4 = .bool x4_1 ∧ Aside0 (quote_sign.j0 kq a0 a0 x4_1 = some r) ∧ Aside0 (kq ≤ k) ∧ Aside0 (Below w.heap.size w wc))
  case first =>
    have H := HC2.out
    clear HC2
    by_cases c3 : a0 = 34
    · rw [if_pos c3] at H
      have c3b0 : (a0 == 34) = true := beq_iff_eq.mpr c3
      have c3b1 : (a0 != 34) = false := bne_eq_false_iff_eq.mpr c3
      clear c3
      (first | rw [c3b0] | (simp only [i64_w, i32_w]; rw [c3b0]) | skip)
      have H' := Aside0.mk H
      clear H
      go_wp2
      go_meet
      case rel => exact ⟨_, ((a0 == 34)), (by first | rfl | (simp; done) | (simp [*]; done)), H', ⟨by first | omega | exact Nat.le_refl _⟩, ⟨by repeat (first | (with_reducible first | exact HB.out | apply below_alloc | apply pw_below_drewN | apply below_drew1) | exact HB.out)⟩⟩
    · rw [if_neg c3] at H
      have c3b0 : (a0 == 34) = false := beq_eq_false_iff_ne.mpr c3
      have c3b1 : (a0 != 34) = true := bne_iff_ne.mpr c3
      (first | rw [c3b0] | (simp only [i64_w, i32_w]; rw [c3b0]) | skip)
      have H' := Aside0.mk H
      clear H
      go_wp2
      go_meet
      case rel => exact ⟨_, ((a0 == 92)), (by first | rfl | (simp; done) | (simp [*]; done)), H', ⟨by first | omega | exact Nat.le_refl _⟩, ⟨by repeat (first | (with_reducible first | exact HB.out | apply below_alloc | apply pw_below_drewN | apply below_drew1) | exact HB.out)⟩⟩
  case rest =>
    clear HC2
    try clear c2
    try clear p2
    try clear c3
    try clear c3b0
    try clear c3b1
    obtain ⟨kq, x4_1, rfl, HA, HJ1, HB⟩ := hcut
    cases kq with
    | zero => exact absurd HA.out (by simp [quote_sign.j0])
    | succ kj1 =>
      have H := HA.out
      clear HA
      simp only [quote_sign.j0] at H
      by_cases c4 : x4_1 = true
      · subst c4
        have H1 : (if 1 + (Utf8.encode (wrap32 (a0))).size ≤ 9223372036854775807 then (some ((⟨#[92]⟩ : ByteArray) ++ (Utf8.encode (wrap32 (a0))))) else (none)) = some r := by rw [if_pos rfl] at H; exact H
        clear H
        have H := H1
        clear H1
        by_cases c5 : 1 + (Utf8.encode (wrap32 (a0))).size ≤ 9223372036854775807
        · rw [if_pos c5] at H
          have c5b0 := eq_true c5
          have c5b1 : decide (1 + (Utf8.encode (wrap32 (a0))).size ≤ 9223372036854775807) = true := decide_eq_true c5
          try have c5b2 : (9223372036854775807 < 1 + (Utf8.encode (wrap32 (a0))).size) = False := eq_false (Nat.not_lt.2 c5)
          obtain rfl := Option.some.inj H
          go_wp2
          go_ret
          exact ⟨by first | rfl | (simp [errW_none, errW_some] <;> rfl) | (simp [*, errW_none, errW_some] <;> rfl), by repeat (first | (with_reducible first | exact HB.out | apply below_alloc | apply pw_below_drewN | apply below_drew1) | exact HB.out)⟩
        · rw [if_neg c5] at H
          exact absurd H (by simp)
      · replace c4 := Bool.eq_false_iff.mpr c4
        subst c4
        have H1 : (if a0 = 0 then (some (⟨#[92, 48]⟩ : ByteArray)) else (if a0 = 9 then (some (⟨#[92, 116]⟩ : ByteArray)) else (if a0 = 10 then (some (⟨#[92, 110]⟩ : ByteArray)) else (if a0 = 13 then (some (⟨#[92, 114]⟩ : ByteArray)) else (if a0 < 32 then ((quote_digit.f kj1 ((Int.tdiv a0 16) % 256)).bind fun t258 => (if 2 + (Utf8.encode t258).size ≤ 9223372036854775807 then ((quote_digit.f kj1 (wrap64 (Int.tmod a0 16))).bind fun t259 => (if ((⟨#[92, 120]⟩ : ByteArray) ++ (Utf8.encode t258)).size + (Utf8.encode t259).size ≤ 9223372036854775807 then (some (((⟨#[92, 120]⟩ : ByteArray) ++ (Utf8.encode t258)) ++ (Utf8.encode t259))) else (none))) else (none))) else (some (strOfNums (([a0] : List Int))))))))) = some r := by rw [if_neg (show ¬ (false = true) by decide)] at H; exact H
        clear H
        have H := H1
        clear H1
        by_cases c6 : a0 = 0
        · rw [if_pos c6] at H
          have c6b0 : (a0 == 0) = true := beq_iff_eq.mpr c6
          have c6b1 : (a0 != 0) = false := bne_eq_false_iff_eq.mpr c6
          clear c6
          obtain rfl := Option.some.inj H
          go_wp2
          go_ret
          exact ⟨by first | rfl | (simp [errW_none, errW_some] <;> rfl) | (simp [*, errW_none, errW_some] <;> rfl), by repeat (first | (with_reducible first | exact HB.out | apply below_alloc | apply pw_below_drewN | apply below_drew1) | exact HB.out)⟩
        · rw [if_neg c6] at H
          have c6b0 : (a0 == 0) = false := beq_eq_false_iff_ne.mpr c6
          have c6b1 : (a0 != 0) = true := bne_iff_ne.mpr c6
          by_cases c7 : a0 = 9
          · rw [if_pos c7] at H
            have c7b0 : (a0 == 9) = true := beq_iff_eq.mpr c7
            have c7b1 : (a0 != 9) = false := bne_eq_false_iff_eq.mpr c7
            clear c7
            obtain rfl := Option.some.inj H
            go_wp2
            go_ret
            exact ⟨by first | rfl | (simp [errW_none, errW_some] <;> rfl) | (simp [*, errW_none, errW_some] <;> rfl), by repeat (first | (with_reducible first | exact HB.out | apply below_alloc | apply pw_below_drewN | apply below_drew1) | exact HB.out)⟩
          · rw [if_neg c7] at H
            have c7b0 : (a0 == 9) = false := beq_eq_false_iff_ne.mpr c7
            have c7b1 : (a0 != 9) = true := bne_iff_ne.mpr c7
            by_cases c8 : a0 = 10
            · rw [if_pos c8] at H
              have c8b0 : (a0 == 10) = true := beq_iff_eq.mpr c8
              have c8b1 : (a0 != 10) = false := bne_eq_false_iff_eq.mpr c8
              clear c8
              obtain rfl := Option.some.inj H
              go_wp2
              go_ret
              exact ⟨by first | rfl | (simp [errW_none, errW_some] <;> rfl) | (simp [*, errW_none, errW_some] <;> rfl), by repeat (first | (with_reducible first | exact HB.out | apply below_alloc | apply pw_below_drewN | apply below_drew1) | exact HB.out)⟩
            · rw [if_neg c8] at H
              have c8b0 : (a0 == 10) = false := beq_eq_false_iff_ne.mpr c8
              have c8b1 : (a0 != 10) = true := bne_iff_ne.mpr c8
              by_cases c9 : a0 = 13
              · rw [if_pos c9] at H
                have c9b0 : (a0 == 13) = true := beq_iff_eq.mpr c9
                have c9b1 : (a0 != 13) = false := bne_eq_false_iff_eq.mpr c9
                clear c9
                obtain rfl := Option.some.inj H
                go_wp2
                go_ret
                exact ⟨by first | rfl | (simp [errW_none, errW_some] <;> rfl) | (simp [*, errW_none, errW_some] <;> rfl), by repeat (first | (with_reducible first | exact HB.out | apply below_alloc | apply pw_below_drewN | apply below_drew1) | exact HB.out)⟩
              · rw [if_neg c9] at H
                have c9b0 : (a0 == 13) = false := beq_eq_false_iff_ne.mpr c9
                have c9b1 : (a0 != 13) = true := bne_iff_ne.mpr c9
                by_cases c10 : a0 < 32
                · rw [if_pos c10] at H
                  have c10b0 : decide (a0 < 32) = true := decide_eq_true c10
                  clear c10
                  replace H := Option.bind_eq_some_iff.mp H
                  obtain ⟨t258, A110, H⟩ := H
                  replace H : (if 2 + (Utf8.encode t258).size ≤ 9223372036854775807 then ((quote_digit.f kj1 (wrap64 (Int.tmod a0 16))).bind fun t259 => (if ((⟨#[92, 120]⟩ : ByteArray) ++ (Utf8.encode t258)).size + (Utf8.encode t259).size ≤ 9223372036854775807 then (some (((⟨#[92, 120]⟩ : ByteArray) ++ (Utf8.encode t258)) ++ (Utf8.encode t259))) else (none))) else (none)) = some r := H
                  have A11 := Aside0.mk A110
                  clear A110
                  by_cases c12 : 2 + (Utf8.encode t258).size ≤ 9223372036854775807
                  · rw [if_pos c12] at H
                    have c12b0 := eq_true c12
                    have c12b1 : decide (2 + (Utf8.encode t258).size ≤ 9223372036854775807) = true := decide_eq_true c12
                    try have c12b2 : (9223372036854775807 < 2 + (Utf8.encode t258).size) = False := eq_false (Nat.not_lt.2 c12)
                    replace H := Option.bind_eq_some_iff.mp H
                    obtain ⟨t259, A130, H⟩ := H
                    replace H : (if ((⟨#[92, 120]⟩ : ByteArray) ++ (Utf8.encode t258)).size + (Utf8.encode t259).size ≤ 9223372036854775807 then (some (((⟨#[92, 120]⟩ : ByteArray) ++ (Utf8.encode t258)) ++ (Utf8.encode t259))) else (none)) = some r := H
                    have A13 := Aside0.mk A130
                    clear A130
                    by_cases c14 : ((⟨#[92, 120]⟩ : ByteArray) ++ (Utf8.encode t258)).size + (Utf8.encode t259).size ≤ 9223372036854775807
                    · rw [if_pos c14] at H
                      have c14b0 := eq_true c14
                      have c14b1 : decide (((⟨#[92, 120]⟩ : ByteArray) ++ (Utf8.encode t258)).size + (Utf8.encode t259).size ≤ 9223372036854775807) = true := decide_eq_true c14
                      try have c14b2 : (9223372036854775807 < ((⟨#[92, 120]⟩ : ByteArray) ++ (Utf8.encode t258)).size + (Utf8.encode t259).size) = False := eq_false (Nat.not_lt.2 c14)
                      obtain rfl := Option.some.inj H
                      go_wp2_with (first | ((with_reducible refine gate_callee (f := 32) rfl ?_); refine goesL_ (some 24) rfl rfl Try.func32 (by kernel_rfl) rfl #[.int .i64 ((Int.tdiv a0 16) % 256)] rfl (by (try simp only [List.map_toArray, List.map_cons, List.map_nil]); first | done | rfl | (simp only [List.length_drop, List.length_take]; rfl) | (simp only [ByteArray.size_extract, Nat.min_self]; done) | (simp only [ByteArray.size_extract, Nat.min_self]; rfl)) ?_; (with_reducible refine (quote_digit.calls kj1 ((Int.tdiv a0 16) % 256) t258 _ A11.out).mono ?_); rintro e w15 ⟨rfl, hb⟩; refine ⟨_, rfl, ?_⟩; have n0_ := Aside0.mk (below_step (by repeat (first | (with_reducible first | exact HB.out | apply below_alloc | apply pw_below_drewN | apply below_drew1) | exact HB.out)) hb); clear HB; have HB := n0_; clear n0_; (try clear hb); (try clear hb2); (try clear hk); (try clear hi)) | ((with_reducible refine gate_callee (f := 32) rfl ?_); refine goesL_ (some 30) rfl rfl Try.func32 (by kernel_rfl) rfl #[.int .i64 (wrap64 (Int.tmod a0 16))] rfl (by (try simp only [List.map_toArray, List.map_cons, List.map_nil]); first | done | rfl | (simp only [List.length_drop, List.length_take]; rfl) | (simp only [ByteArray.size_extract, Nat.min_self]; done) | (simp only [ByteArray.size_extract, Nat.min_self]; rfl)) ?_; (with_reducible refine (quote_digit.calls kj1 (wrap64 (Int.tmod a0 16)) t259 _ A13.out).mono ?_); rintro e w16 ⟨rfl, hb⟩; refine ⟨_, rfl, ?_⟩; have n0_ := Aside0.mk (below_step (by repeat (first | (with_reducible first | exact HB.out | apply below_alloc | apply pw_below_drewN | apply below_drew1) | exact HB.out)) hb); clear HB; have HB := n0_; clear n0_; (try clear hb); (try clear hb2); (try clear hk); (try clear hi)))
                      go_ret
                      exact ⟨by first | rfl | (simp [errW_none, errW_some] <;> rfl) | (simp [*, errW_none, errW_some] <;> rfl), by repeat (first | (with_reducible first | exact HB.out | apply below_alloc | apply pw_below_drewN | apply below_drew1) | exact HB.out)⟩
                    · rw [if_neg c14] at H
                      exact absurd H (by simp)
                  · rw [if_neg c12] at H
                    exact absurd H (by simp)
                · rw [if_neg c10] at H
                  have c10b0 : decide (a0 < 32) = false := decide_eq_false c10
                  clear c10
                  obtain ⟨y260, hy260⟩ : ∃ y_ : List Int, y_ = (([a0] : List Int)) := ⟨_, rfl⟩
                  replace H : (some (strOfNums y260)) = some r := by first | (rw [hy260]; with_reducible exact H) | (have H2_ := (Option.bind_some _ _).symm.trans H; rw [hy260]; with_reducible exact H2_) | (have H2_ := (Option.bind_some _ _).symm.trans H; with_reducible exact H2_) | with_reducible exact H | (rw [hy260]; exact H) | exact H
                  have Ny260 := Aside0.mk hy260
                  clear hy260
                  obtain rfl := Option.some.inj H
                  go_wp2_with (first | ((with_reducible refine gate_dst (N := 34) rfl ?_); refine Kd.R_lit (Kd.int .u8) _ 5 ?hg (N := 34) ?hd (xs := ([a0] : List Int)) (inner := [.int .u8 a0]) (ok := fun _ => True) (okp := fun _ => True) ?hr ?hp (fun _ hk => hk) trivial (Below.refl _ _) (Nat.le_refl _) (by simp) ?_; (case hd => rfl); (case hg => rfl); (case hr => first | (go_simp; done) | (go_simp; rfl)); (case hp => exact (Reps.one (show Kd.M (Kd.int .u8) _ _ _ a0 [.int .u8 a0] from rfl) (Reps.none _ _))); intro v261 w17 ho18 hb hg_ hnew_; clear hg_ hnew_; (first | rw [← Ny260.out] at ho18 | (simp only [Int.reduceToNat] at ho18; rw [← Ny260.out] at ho18)); have n0_ := Aside0.mk (Kd.R_lower ho18 (below_size (by repeat (first | (with_reducible first | exact HB.out | apply below_alloc | apply pw_below_drewN | apply below_drew1) | exact HB.out)))); have n1_ := Aside0.mk (below_step (by repeat (first | (with_reducible first | exact HB.out | apply below_alloc | apply pw_below_drewN | apply below_drew1) | exact HB.out)) hb); clear HB; have HO262 := n0_; have HB := n1_; clear n0_ n1_; clear hb ho18; have hcv19 := own_string (P := Try.prog) Try.underlying37 Try.underlying5 Try.underlying9 (Kd.own_of_R HO262.out)))
                  go_ret
                  exact ⟨by first | rfl | (simp [errW_none, errW_some] <;> rfl) | (simp [*, errW_none, errW_some] <;> rfl), by repeat (first | (with_reducible first | exact HB.out | apply below_alloc | apply pw_below_drewN | apply below_drew1) | exact HB.out)⟩

/-! ### quote_Write: function 14 -/
def quote_Write.l0 : Nat → ByteArray → Int → Int → ByteArray → Option (ByteArray)
  | 0, _, _, _, _ => none
  | k + 1, x0, x7, x8, x264000 => if x8 < x7 then (if 0 ≤ x8 then (if x8 < (x0.size : Int) then ((quote_sign.f k (bt x0 x8)).bind fun t266 => ((strings_Builder_WriteString.f x264000 t266).bind fun bt267 => (quote_Write.l0 k x0 x7 (wrap64 (x8 + 1)) bt267.2.2))) else (none)) else (none)) else ((strings_Builder_WriteByte.f x264000 34).bind fun bt270 => ((strings_Builder_String.f bt270.2).bind fun bt272 => (some bt272.1)))
def quote_Write.f (k : Nat) (a0 : ByteArray) : Option (ByteArray) := (strings_Builder_WriteByte.f (⟨#[]⟩ : ByteArray) 34).bind fun bt264 => (quote_Write.l0 k a0 (a0.size : Int) 0 bt264.2)
theorem quote_Write.mono_l : ∀ k, (∀ y0 y1 y2 y3, LeO (quote_Write.l0 k y0 y1 y2 y3) (quote_Write.l0 (k + 1) y0 y1 y2 y3))
  | 0 => fun _ _ _ _ r h => by simp [quote_Write.l0] at h
  | k + 1 => by
    have ih0 := quote_Write.mono_l k
    · intro y0 y1 y2 y3
      unfold quote_Write.l0
      repeat' first
      | (with_reducible exact ih0 _ _ _ _)
      | (with_reducible exact quote_sign.mono _ _)
      | (with_reducible exact LeO.refl _)
      | (with_reducible exact LeO.none _)
      | (with_reducible refine LeO.ite ?_ ?_)
      | (with_reducible refine LeO.bind ?_ (fun _ => ?_))
      | exact ih0 _ _ _ _
      | exact quote_sign.mono _ _
      | exact LeO.none _
      | refine LeO.ite ?_ ?_
      | refine LeO.bind ?_ (fun _ => ?_)
theorem quote_Write.mono : ∀ a0 k, LeO (quote_Write.f k a0) (quote_Write.f (k + 1) a0) := by
  intro a0 k
  have ih0 := quote_Write.mono_l k
  unfold quote_Write.f
  repeat' first
      | (with_reducible exact ih0 _ _ _ _)
      | (with_reducible exact quote_sign.mono _ _)
      | (with_reducible exact LeO.refl _)
      | (with_reducible exact LeO.none _)
      | (with_reducible refine LeO.ite ?_ ?_)
      | (with_reducible refine LeO.bind ?_ (fun _ => ?_))
      | exact ih0 _ _ _ _
      | exact quote_sign.mono _ _
      | exact LeO.none _
      | refine LeO.ite ?_ ?_
      | refine LeO.bind ?_ (fun _ => ?_)
set_option maxHeartbeats 8000000 in
set_option maxRecDepth 100000 in
theorem quote_Write.calls (k : Nat) (a0 : ByteArray) (r : ByteArray) (w : World) (h : quote_Write.f k a0 = some r) :
    Calls Try.prog 14 #[.string a0] w fun e w' => e = .returned (.string r) ∧ Below w.heap.size w w' := by
  have hu50 := Try.underlying50
  have HB := Aside0.mk (Below.refl w.heap.size w)
  have H : ((strings_Builder_WriteByte.f (⟨#[]⟩ : ByteArray) 34).bind fun bt264 => (quote_Write.l0 k a0 (a0.size : Int) 0 bt264.2)) = some r := h
  clear h
  replace H := Option.bind_eq_some_iff.mp H
  obtain ⟨⟨t264, t265⟩, A20, H⟩ := H
  replace H : (quote_Write.l0 k a0 (a0.size : Int) 0 t265) = some r := H
  have A2 := Aside0.mk A20
  clear A20
  have H' := Aside0.mk H
  clear H
  go_enter Try.func14, Try.ntmps14
  go_wp2_with (first | ((with_reducible refine gate_dst (N := 3) rfl ?_); refine bld_event ?hg (N := 3) ?hd (T := 50) (e := 5) w (below_size (by repeat (first | (with_reducible first | exact HB.out | apply below_alloc | apply pw_below_drewN | apply below_drew1) | exact HB.out))) ?hr ?_; (case hd => rfl); (case hg => rfl); (case hr => first | (go_simp; done) | (go_simp; rfl)); intro gb263 w3 hi hb2; have n0_ := Aside0.mk (below_step (by repeat (first | (with_reducible first | exact HB.out | apply below_alloc | apply pw_below_drewN | apply below_drew1) | exact HB.out)) hb2); have n1_ := Aside0.mk ((show IsS102 w w3 gb263 (⟨#[]⟩ : ByteArray) from hi)); clear HB; have HB := n0_; have HI263 := n1_; clear n0_ n1_; (try clear hb2 hi)) | ((with_reducible refine gate_callee (f := 20) rfl ?_); refine goesL_ (some 5) rfl rfl Try.func20 (by kernel_rfl) rfl #[.pointer (some ⟨gb263, 0, none⟩), .int .u8 34] rfl (by (try simp only [List.map_toArray, List.map_cons, List.map_nil]); first | done | rfl | (simp only [List.length_drop, List.length_take]; rfl) | (simp only [ByteArray.size_extract, Nat.min_self]; done) | (simp only [ByteArray.size_extract, Nat.min_self]; rfl)) ?_; (with_reducible refine (strings_Builder_WriteByte.calls gb263 (⟨#[]⟩ : ByteArray) 34 t264 t265 w _ ?side1 ?side2 A2.out).mono ?_); (case side1 => repeat (first | (with_reducible first | exact HI263.out | apply IsS102.alloc | apply IsS102.drewN | apply IsS102.drew | apply IsS102.set_0) | exact HI263.out)); (case side2 => repeat (first | (with_reducible first | exact HB.out | apply below_alloc | apply pw_below_drewN | apply below_drew1 | refine below_set ?_ (IsS102.ge HI263.out)) | exact HB.out)); rintro e w4 ⟨rfl, hi, hb, hk⟩; refine ⟨_, rfl, ?_⟩; have n0_ := Aside0.mk (hb); have n1_ := Aside0.mk (hi); clear HB; clear HI263; have HB := n0_; have HI263 := n1_; clear n0_ n1_; (try clear hb); (try clear hb2); (try clear hk); (try clear hi); (try simp only [errW_none, errW_some])))
  go_loopg [8] k (fun kq v8 w' => ∃ (x8_1 : Int) (x264000_1 : ByteArray), v8 = .int .i64 x8_1 ∧ Aside0 (quote_Write.l0 kq a0 (a0.size : Int) x8_1 x264000_1 = some r) ∧ Aside0 (kq ≤ k) ∧ Aside0 (IsS102 w w' gb263 x264000_1) ∧ Aside0 (Below w.heap.size w w'))
  case atStart => exact ⟨(0), (t265), (by first | rfl | (simp; done) | (simp [*]; done)), H', ⟨Nat.le_refl _⟩, ⟨by repeat (first | (with_reducible first | exact HI263.out | apply IsS102.alloc | apply IsS102.drewN | apply IsS102.drew | apply IsS102.set_0) | exact HI263.out)⟩, ⟨by repeat (first | (with_reducible first | exact HB.out | apply below_alloc | apply pw_below_drewN | apply below_drew1 | refine below_set ?_ (IsS102.ge HI263.out)) | exact HB.out)⟩⟩
  case round =>
    clear H'
    try clear c1
    try clear c2
    try clear p2
    obtain ⟨x8_1, x264000_1, rfl, HA, HK1, HI263, HB⟩ := hrel
    cases gk with
    | zero => exact absurd HA.out (by simp [quote_Write.l0])
    | succ k1 =>
      have H := HA.out
      clear HA
      simp only [quote_Write.l0] at H
      by_cases c5 : x8_1 < (a0.size : Int)
      · rw [if_pos c5] at H
        have c5b0 : decide (x8_1 < (a0.size : Int)) = true := decide_eq_true c5
        clear c5
        by_cases c6 : 0 ≤ x8_1
        · rw [if_pos c6] at H
          have c6b0 : decide (0 ≤ x8_1) = true := decide_eq_true c6
          clear c6
          by_cases c7 : x8_1 < (a0.size : Int)
          · rw [if_pos c7] at H
            have c7b0 : decide (x8_1 < (a0.size : Int)) = true := decide_eq_true c7
            clear c7
            replace H := Option.bind_eq_some_iff.mp H
            obtain ⟨t266, A90, H⟩ := H
            replace H : ((strings_Builder_WriteString.f x264000_1 t266).bind fun bt267 => (quote_Write.l0 k1 a0 (a0.size : Int) (wrap64 (x8_1 + 1)) bt267.2.2)) = some r := H
            have A9 := Aside0.mk A90
            clear A90
            replace H := Option.bind_eq_some_iff.mp H
            obtain ⟨⟨t267, t268, t269⟩, A100, H⟩ := H
            replace H : (quote_Write.l0 k1 a0 (a0.size : Int) (wrap64 (x8_1 + 1)) t269) = some r := H
            have A10 := Aside0.mk A100
            clear A100
            have H' := Aside0.mk H
            clear H
            have p8 : 0 ≤ (x8_1 : Int) := of_decide_eq_true (by first | (with_reducible assumption) | assumption)
            have q8 : x8_1 < (a0.size : Int) := of_decide_eq_true (by first | (with_reducible assumption) | assumption)
            have hx8 := bt_at a0 x8_1
            replace p8 := eq_true p8
            replace q8 := eq_true q8
            go_wp2_with (first | ((with_reducible refine gate_callee (f := 22) rfl ?_); refine goesL_ (some 14) rfl rfl Try.func22 (by kernel_rfl) rfl #[.int .u8 (bt a0 x8_1)] rfl (by (try simp only [List.map_toArray, List.map_cons, List.map_nil]); first | done | rfl | (simp only [List.length_drop, List.length_take]; rfl) | (simp only [ByteArray.size_extract, Nat.min_self]; done) | (simp only [ByteArray.size_extract, Nat.min_self]; rfl)) ?_; (with_reducible refine (quote_sign.calls k1 (bt a0 x8_1) t266 _ A9.out).mono ?_); rintro e w11 ⟨rfl, hb⟩; refine ⟨_, rfl, ?_⟩; have n0_ := Aside0.mk (IsS102.below (by repeat (first | (with_reducible first | exact HI263.out | apply IsS102.alloc | apply IsS102.drewN | apply IsS102.drew | apply IsS102.set_0) | exact HI263.out)) hb); have n1_ := Aside0.mk (below_step (by repeat (first | (with_reducible first | exact HB.out | apply below_alloc | apply pw_below_drewN | apply below_drew1 | refine below_set ?_ (IsS102.ge HI263.out)) | exact HB.out)) hb); clear HI263; clear HB; have HI263 := n0_; have HB := n1_; clear n0_ n1_; (try clear hb); (try clear hb2); (try clear hk); (try clear hi)) | ((with_reducible refine gate_callee (f := 21) rfl ?_); refine goesL_ (some 15) rfl rfl Try.func21 (by kernel_rfl) rfl #[.pointer (some ⟨gb263, 0, none⟩), .string t266] rfl (by (try simp only [List.map_toArray, List.map_cons, List.map_nil]); first | done | rfl | (simp only [List.length_drop, List.length_take]; rfl) | (simp only [ByteArray.size_extract, Nat.min_self]; done) | (simp only [ByteArray.size_extract, Nat.min_self]; rfl)) ?_; (with_reducible refine (strings_Builder_WriteString.calls gb263 x264000_1 t266 t267 t268 t269 w _ ?side1 ?side2 A10.out).mono ?_); (case side1 => repeat (first | (with_reducible first | exact HI263.out | apply IsS102.alloc | apply IsS102.drewN | apply IsS102.drew | apply IsS102.set_0) | exact HI263.out)); (case side2 => repeat (first | (with_reducible first | exact HB.out | apply below_alloc | apply pw_below_drewN | apply below_drew1 | refine below_set ?_ (IsS102.ge HI263.out)) | exact HB.out)); rintro e w12 ⟨rfl, hi, hb, hk⟩; refine ⟨_, rfl, ?_⟩; have n0_ := Aside0.mk (hb); have n1_ := Aside0.mk (hi); clear HB; clear HI263; have HB := n0_; have HI263 := n1_; clear n0_ n1_; (try clear hb); (try clear hb2); (try clear hk); (try clear hi); (try simp only [errW_none, errW_some])))
            go_roundg k1
            case measure => have := HK1.out; omega
            case rel => exact ⟨(wrap64 (x8_1 + 1)), (t269), (by first | rfl | (simp; done) | (simp [*]; done)), H', ⟨by have := HK1.out; omega⟩, ⟨by repeat (first | (with_reducible first | exact HI263.out | apply IsS102.alloc | apply IsS102.drewN | apply IsS102.drew | apply IsS102.set_0) | exact HI263.out)⟩, ⟨by repeat (first | (with_reducible first | exact HB.out | apply below_alloc | apply pw_below_drewN | apply below_drew1 | refine below_set ?_ (IsS102.ge HI263.out)) | exact HB.out)⟩⟩
          · rw [if_neg c7] at H
            exact absurd H (by simp)
        · rw [if_neg c6] at H
          exact absurd H (by simp)
      · rw [if_neg c5] at H
        have c5b0 : decide (x8_1 < (a0.size : Int)) = false := decide_eq_false c5
        clear c5
        replace H := Option.bind_eq_some_iff.mp H
        obtain ⟨⟨t270, t271⟩, A130, H⟩ := H
        replace H : ((strings_Builder_String.f t271).bind fun bt272 => (some bt272.1)) = some r := H
        have A13 := Aside0.mk A130
        clear A130
        replace H := Option.bind_eq_some_iff.mp H
        obtain ⟨⟨t272, t273⟩, A140, H⟩ := H
        replace H : (some t272) = some r := H
        have A14 := Aside0.mk A140
        clear A140
        obtain rfl := Option.some.inj H
        go_wp2_with (first | ((with_reducible refine gate_callee (f := 20) rfl ?_); refine goesL_ (some 17) rfl rfl Try.func20 (by kernel_rfl) rfl #[.pointer (some ⟨gb263, 0, none⟩), .int .u8 34] rfl (by (try simp only [List.map_toArray, List.map_cons, List.map_nil]); first | done | rfl | (simp only [List.length_drop, List.length_take]; rfl) | (simp only [ByteArray.size_extract, Nat.min_self]; done) | (simp only [ByteArray.size_extract, Nat.min_self]; rfl)) ?_; (with_reducible refine (strings_Builder_WriteByte.calls gb263 x264000_1 34 t270 t271 w _ ?side1 ?side2 A13.out).mono ?_); (case side1 => repeat (first | (with_reducible first | exact HI263.out | apply IsS102.alloc | apply IsS102.drewN | apply IsS102.drew | apply IsS102.set_0) | exact HI263.out)); (case side2 => repeat (first | (with_reducible first | exact HB.out | apply below_alloc | apply pw_below_drewN | apply below_drew1 | refine below_set ?_ (IsS102.ge HI263.out)) | exact HB.out)); rintro e w15 ⟨rfl, hi, hb, hk⟩; refine ⟨_, rfl, ?_⟩; have n0_ := Aside0.mk (hb); have n1_ := Aside0.mk (hi); clear HB; clear HI263; have HB := n0_; have HI263 := n1_; clear n0_ n1_; (try clear hb); (try clear hb2); (try clear hk); (try clear hi); (try simp only [errW_none, errW_some])) | ((with_reducible refine gate_callee (f := 23) rfl ?_); refine goesL_ (some 18) rfl rfl Try.func23 (by kernel_rfl) rfl #[.pointer (some ⟨gb263, 0, none⟩)] rfl (by (try simp only [List.map_toArray, List.map_cons, List.map_nil]); first | done | rfl | (simp only [List.length_drop, List.length_take]; rfl) | (simp only [ByteArray.size_extract, Nat.min_self]; done) | (simp only [ByteArray.size_extract, Nat.min_self]; rfl)) ?_; (with_reducible refine (strings_Builder_String.calls gb263 t271 t272 t273 w _ ?side1 ?side2 A14.out).mono ?_); (case side1 => repeat (first | (with_reducible first | exact HI263.out | apply IsS102.alloc | apply IsS102.drewN | apply IsS102.drew | apply IsS102.set_0) | exact HI263.out)); (case side2 => repeat (first | (with_reducible first | exact HB.out | apply below_alloc | apply pw_below_drewN | apply below_drew1 | refine below_set ?_ (IsS102.ge HI263.out)) | exact HB.out)); rintro e w16 ⟨rfl, hi, hb, hk⟩; refine ⟨_, rfl, ?_⟩; have n0_ := Aside0.mk (hb); have n1_ := Aside0.mk (hi); clear HB; clear HI263; have HB := n0_; have HI263 := n1_; clear n0_ n1_; (try clear hb); (try clear hb2); (try clear hk); (try clear hi)))
        go_ret
        exact ⟨by first | rfl | (simp [errW_none, errW_some] <;> rfl) | (simp [*, errW_none, errW_some] <;> rfl), by repeat (first | (with_reducible first | exact HB.out | apply below_alloc | apply pw_below_drewN | apply below_drew1 | refine below_set ?_ (IsS102.ge HI263.out)) | exact HB.out)⟩

end Go.Proofs.Ytabdoommjdgogaa.Q
