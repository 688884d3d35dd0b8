/- Proved here, in the forms of the print's contracts: what each Go function answers, and the rows of the laws over it; by a program and by hand. -/
import Derived.Test.YtpigemgiegbblaaQ0
import Derived.Test.YtpigemgiegbblaaQresolve
namespace Go.Proofs.Ytpigemgiegbblaa.Q
open Go.RowKit Go.Proofs.YtpigemgiegbblaaW.PrintWords Go.Proofs.YtpigemgiegbblaaW.PrintLast Go.Proofs.YtpigemgiegbblaaW.PrintMore
attribute [local go_sem] max2_int min2_int max_two min_two max_three min_three max_four min_four   -- for this text's walks alone
set_option linter.unusedVariables false
set_option linter.unusedSimpArgs false

/-! ### correctorlaw15_known: function 23 -/
def correctorlaw15_known.f (k : Nat)  : Option (Bool) := (resolve_Int.f k (⟨#[48, 120, 49, 70]⟩ : ByteArray)).bind fun bt235 => ((resolve_Kind.f k (⟨#[48, 120, 49, 70]⟩ : ByteArray)).bind fun t237 => (if t237 = 3 then (if bt235.2 = true then (some (bt235.1 == 31)) else (some false)) else (some false)))
theorem correctorlaw15_known.mono : ∀ k, LeO (correctorlaw15_known.f k ) (correctorlaw15_known.f (k + 1) ) := by
  intro  k
  unfold correctorlaw15_known.f
  repeat' first
      | (with_reducible exact resolve_Int.mono _ _)
      | (with_reducible exact resolve_Kind.mono _ _)
      | (with_reducible exact LeO.refl _)
      | (with_reducible exact LeO.none _)
      | (with_reducible refine LeO.ite ?_ ?_)
      | (with_reducible refine LeO.bind ?_ (fun _ => ?_))
      | exact resolve_Int.mono _ _
      | exact resolve_Kind.mono _ _
      | exact LeO.none _
      | refine LeO.ite ?_ ?_
      | refine LeO.bind ?_ (fun _ => ?_)
set_option maxHeartbeats 8000000 in
set_option maxRecDepth 100000 in
theorem correctorlaw15_known.calls (k : Nat)  (r : Bool) (w : World) (h : correctorlaw15_known.f k  = some r) :
    Calls Try.prog 23 #[] w fun e w' => e = .returned (.bool r) ∧ Below w.heap.size w w' := by
  have HB := Aside0.mk (Below.refl w.heap.size w)
  have H : ((resolve_Int.f k (⟨#[48, 120, 49, 70]⟩ : ByteArray)).bind fun bt235 => ((resolve_Kind.f k (⟨#[48, 120, 49, 70]⟩ : ByteArray)).bind fun t237 => (if t237 = 3 then (if bt235.2 = true then (some (bt235.1 == 31)) else (some false)) else (some false)))) = some r := h
  clear h
  replace H := Option.bind_eq_some_iff.mp H
  obtain ⟨⟨t235, t236⟩, A10, H⟩ := H
  replace H : ((resolve_Kind.f k (⟨#[48, 120, 49, 70]⟩ : ByteArray)).bind fun t237 => (if t237 = 3 then (if t236 = true then (some (t235 == 31)) else (some false)) else (some false))) = some r := H
  have A1 := Aside0.mk A10
  clear A10
  replace H := Option.bind_eq_some_iff.mp H
  obtain ⟨t237, A20, H⟩ := H
  replace H : (if t237 = 3 then (if t236 = true then (some (t235 == 31)) else (some false)) else (some false)) = some r := H
  have A2 := Aside0.mk A20
  clear A20
  by_cases c3 : t237 = 3
  · rw [if_pos c3] at H
    have c3b0 : (t237 == 3) = true := beq_iff_eq.mpr c3
    have c3b1 : (t237 != 3) = false := bne_eq_false_iff_eq.mpr c3
    clear c3
    by_cases c4 : t236 = true
    · subst c4
      have H1 : (some (t235 == 31)) = some r := by rw [if_pos rfl] at H; exact H
      clear H
      have H := H1
      clear H1
      obtain rfl := Option.some.inj H
      go_enter Try.func23, Try.ntmps23
      go_wp2_with (first | ((with_reducible refine gate_callee (f := 24) rfl ?_); refine goesL_ (some 4) rfl rfl Try.func24 (by kernel_rfl) rfl #[.string (⟨#[48, 120, 49, 70]⟩ : ByteArray)] rfl (by (try simp only [List.map_toArray, List.map_cons, List.map_nil]); first | done | rfl | (simp only [List.length_drop, List.length_take]; rfl) | (simp only [ByteArray.size_extract, Nat.min_self]; done) | (simp only [ByteArray.size_extract, Nat.min_self]; rfl)) ?_; (with_reducible refine (resolve_Int.calls k (⟨#[48, 120, 49, 70]⟩ : ByteArray) t235 true _ A1.out).mono ?_); rintro e w5 ⟨rfl, hb⟩; refine ⟨_, rfl, ?_⟩; have n0_ := Aside0.mk (below_step (by repeat (first | (with_reducible first | exact HB.out | apply below_alloc | apply pw_below_drewN | apply below_drew1) | exact HB.out)) hb); clear HB; have HB := n0_; clear n0_; (try clear hb); (try clear hb2); (try clear hk); (try clear hi)) | ((with_reducible refine gate_callee (f := 26) rfl ?_); refine goesL_ (some 7) rfl rfl Try.func26 (by kernel_rfl) rfl #[.string (⟨#[48, 120, 49, 70]⟩ : ByteArray)] rfl (by (try simp only [List.map_toArray, List.map_cons, List.map_nil]); first | done | rfl | (simp only [List.length_drop, List.length_take]; rfl) | (simp only [ByteArray.size_extract, Nat.min_self]; done) | (simp only [ByteArray.size_extract, Nat.min_self]; rfl)) ?_; (with_reducible refine (resolve_Kind.calls k (⟨#[48, 120, 49, 70]⟩ : ByteArray) t237 _ A2.out).mono ?_); rintro e w6 ⟨rfl, hb⟩; refine ⟨_, rfl, ?_⟩; have n0_ := Aside0.mk (below_step (by repeat (first | (with_reducible first | exact HB.out | apply below_alloc | apply pw_below_drewN | apply below_drew1) | exact HB.out)) hb); clear HB; have HB := n0_; clear n0_; (try clear hb); (try clear hb2); (try clear hk); (try clear hi)))
      go_ret
      exact ⟨by first | rfl | (simp [errW_none, errW_some] <;> rfl) | (simp [*, errW_none, errW_some] <;> rfl), by repeat (first | (with_reducible first | exact HB.out | apply below_alloc | apply pw_below_drewN | apply below_drew1) | exact HB.out)⟩
    · replace c4 := Bool.eq_false_iff.mpr c4
      subst c4
      have H1 : (some false) = some r := by rw [if_neg (show ¬ (false = true) by decide)] at H; exact H
      clear H
      have H := H1
      clear H1
      obtain rfl := Option.some.inj H
      go_enter Try.func23, Try.ntmps23
      go_wp2_with (first | ((with_reducible refine gate_callee (f := 24) rfl ?_); refine goesL_ (some 4) rfl rfl Try.func24 (by kernel_rfl) rfl #[.string (⟨#[48, 120, 49, 70]⟩ : ByteArray)] rfl (by (try simp only [List.map_toArray, List.map_cons, List.map_nil]); first | done | rfl | (simp only [List.length_drop, List.length_take]; rfl) | (simp only [ByteArray.size_extract, Nat.min_self]; done) | (simp only [ByteArray.size_extract, Nat.min_self]; rfl)) ?_; (with_reducible refine (resolve_Int.calls k (⟨#[48, 120, 49, 70]⟩ : ByteArray) t235 false _ A1.out).mono ?_); rintro e w7 ⟨rfl, hb⟩; refine ⟨_, rfl, ?_⟩; have n0_ := Aside0.mk (below_step (by repeat (first | (with_reducible first | exact HB.out | apply below_alloc | apply pw_below_drewN | apply below_drew1) | exact HB.out)) hb); clear HB; have HB := n0_; clear n0_; (try clear hb); (try clear hb2); (try clear hk); (try clear hi)) | ((with_reducible refine gate_callee (f := 26) rfl ?_); refine goesL_ (some 7) rfl rfl Try.func26 (by kernel_rfl) rfl #[.string (⟨#[48, 120, 49, 70]⟩ : ByteArray)] rfl (by (try simp only [List.map_toArray, List.map_cons, List.map_nil]); first | done | rfl | (simp only [List.length_drop, List.length_take]; rfl) | (simp only [ByteArray.size_extract, Nat.min_self]; done) | (simp only [ByteArray.size_extract, Nat.min_self]; rfl)) ?_; (with_reducible refine (resolve_Kind.calls k (⟨#[48, 120, 49, 70]⟩ : ByteArray) t237 _ A2.out).mono ?_); rintro e w8 ⟨rfl, hb⟩; refine ⟨_, rfl, ?_⟩; have n0_ := Aside0.mk (below_step (by repeat (first | (with_reducible first | exact HB.out | apply below_alloc | apply pw_below_drewN | apply below_drew1) | exact HB.out)) hb); clear HB; have HB := n0_; clear n0_; (try clear hb); (try clear hb2); (try clear hk); (try clear hi)))
      go_ret
      exact ⟨by first | rfl | (simp [errW_none, errW_some] <;> rfl) | (simp [*, errW_none, errW_some] <;> rfl), by repeat (first | (with_reducible first | exact HB.out | apply below_alloc | apply pw_below_drewN | apply below_drew1) | exact HB.out)⟩
  · rw [if_neg c3] at H
    have c3b0 : (t237 == 3) = false := beq_eq_false_iff_ne.mpr c3
    have c3b1 : (t237 != 3) = true := bne_iff_ne.mpr c3
    obtain rfl := Option.some.inj H
    go_enter Try.func23, Try.ntmps23
    go_wp2_with (first | ((with_reducible refine gate_callee (f := 24) rfl ?_); refine goesL_ (some 4) rfl rfl Try.func24 (by kernel_rfl) rfl #[.string (⟨#[48, 120, 49, 70]⟩ : ByteArray)] rfl (by (try simp only [List.map_toArray, List.map_cons, List.map_nil]); first | done | rfl | (simp only [List.length_drop, List.length_take]; rfl) | (simp only [ByteArray.size_extract, Nat.min_self]; done) | (simp only [ByteArray.size_extract, Nat.min_self]; rfl)) ?_; (with_reducible refine (resolve_Int.calls k (⟨#[48, 120, 49, 70]⟩ : ByteArray) t235 t236 _ A1.out).mono ?_); rintro e w9 ⟨rfl, hb⟩; refine ⟨_, rfl, ?_⟩; have n0_ := Aside0.mk (below_step (by repeat (first | (with_reducible first | exact HB.out | apply below_alloc | apply pw_below_drewN | apply below_drew1) | exact HB.out)) hb); clear HB; have HB := n0_; clear n0_; (try clear hb); (try clear hb2); (try clear hk); (try clear hi)) | ((with_reducible refine gate_callee (f := 26) rfl ?_); refine goesL_ (some 7) rfl rfl Try.func26 (by kernel_rfl) rfl #[.string (⟨#[48, 120, 49, 70]⟩ : ByteArray)] rfl (by (try simp only [List.map_toArray, List.map_cons, List.map_nil]); first | done | rfl | (simp only [List.length_drop, List.length_take]; rfl) | (simp only [ByteArray.size_extract, Nat.min_self]; done) | (simp only [ByteArray.size_extract, Nat.min_self]; rfl)) ?_; (with_reducible refine (resolve_Kind.calls k (⟨#[48, 120, 49, 70]⟩ : ByteArray) t237 _ A2.out).mono ?_); rintro e w10 ⟨rfl, hb⟩; refine ⟨_, rfl, ?_⟩; have n0_ := Aside0.mk (below_step (by repeat (first | (with_reducible first | exact HB.out | apply below_alloc | apply pw_below_drewN | apply below_drew1) | exact HB.out)) hb); clear HB; have HB := n0_; clear n0_; (try clear hb); (try clear hb2); (try clear hk); (try clear hi)))
    go_ret
    exact ⟨by first | rfl | (simp [errW_none, errW_some] <;> rfl) | (simp [*, errW_none, errW_some] <;> rfl), by repeat (first | (with_reducible first | exact HB.out | apply below_alloc | apply pw_below_drewN | apply below_drew1) | exact HB.out)⟩

/-! ### correctorlaw15_text: function 25 -/
mutual
def correctorlaw15_text.j0 : Nat → Int → Bool → Int → Option (ByteArray)
  | 0, _, _, _ => none
  | k + 1, x1, x5, x6 => correctorlaw15_text.l0 k x1 x5 x6 (⟨#[]⟩ : ByteArray)
def correctorlaw15_text.l0 : Nat → Int → Bool → Int → ByteArray → Option (ByteArray)
  | 0, _, _, _, _ => none
  | k + 1, x1, x5, x6, x7 => if x6 > 0 then (if (IntKind.u64.wrap (x1)) = 0 then (none) else (if 0 ≤ (Int.tmod x6 (IntKind.u64.wrap (x1))) then (if (Int.tmod x6 (IntKind.u64.wrap (x1))) ≤ (IntKind.u64.wrap ((Int.tmod x6 (IntKind.u64.wrap (x1))) + 1)) then (if (IntKind.u64.wrap ((Int.tmod x6 (IntKind.u64.wrap (x1))) + 1)) ≤ 16 then (if ((⟨#[48, 49, 50, 51, 52, 53, 54, 55, 56, 57, 97, 98, 99, 100, 101, 102]⟩ : ByteArray).extract ((Int.tmod x6 (IntKind.u64.wrap (x1))) : Int).toNat ((IntKind.u64.wrap ((Int.tmod x6 (IntKind.u64.wrap (x1))) + 1)) : Int).toNat).size + x7.size ≤ 9223372036854775807 then (correctorlaw15_text.l0 k x1 x5 (IntKind.u64.wrap (Int.tdiv x6 (IntKind.u64.wrap (x1)))) (((⟨#[48, 49, 50, 51, 52, 53, 54, 55, 56, 57, 97, 98, 99, 100, 101, 102]⟩ : ByteArray).extract ((Int.tmod x6 (IntKind.u64.wrap (x1))) : Int).toNat ((IntKind.u64.wrap ((Int.tmod x6 (IntKind.u64.wrap (x1))) + 1)) : Int).toNat) ++ x7)) else (none)) else (none)) else (none)) else (none))) else (if x7.toList = ([] : List UInt8) then (if (IntKind.u64.wrap (x1)) = 0 then (none) else (if 0 ≤ (Int.tmod x6 (IntKind.u64.wrap (x1))) then (if (Int.tmod x6 (IntKind.u64.wrap (x1))) ≤ (IntKind.u64.wrap ((Int.tmod x6 (IntKind.u64.wrap (x1))) + 1)) then (if (IntKind.u64.wrap ((Int.tmod x6 (IntKind.u64.wrap (x1))) + 1)) ≤ 16 then (if ((⟨#[48, 49, 50, 51, 52, 53, 54, 55, 56, 57, 97, 98, 99, 100, 101, 102]⟩ : ByteArray).extract ((Int.tmod x6 (IntKind.u64.wrap (x1))) : Int).toNat ((IntKind.u64.wrap ((Int.tmod x6 (IntKind.u64.wrap (x1))) + 1)) : Int).toNat).size + x7.size ≤ 9223372036854775807 then (correctorlaw15_text.l0 k x1 x5 (IntKind.u64.wrap (Int.tdiv x6 (IntKind.u64.wrap (x1)))) (((⟨#[48, 49, 50, 51, 52, 53, 54, 55, 56, 57, 97, 98, 99, 100, 101, 102]⟩ : ByteArray).extract ((Int.tmod x6 (IntKind.u64.wrap (x1))) : Int).toNat ((IntKind.u64.wrap ((Int.tmod x6 (IntKind.u64.wrap (x1))) + 1)) : Int).toNat) ++ x7)) else (none)) else (none)) else (none)) else (none))) else (if x5 = true then (if 1 + x7.size ≤ 9223372036854775807 then (some ((⟨#[45]⟩ : ByteArray) ++ x7)) else (none)) else (some x7)))
end
def correctorlaw15_text.f (k : Nat) (a0 : Int) (a1 : Int) : Option (ByteArray) := if a0 < 0 then (correctorlaw15_text.j0 k a1 (decide (a0 < 0)) (IntKind.u64.wrap (-(IntKind.u64.wrap (a0))))) else (correctorlaw15_text.j0 k a1 (decide (a0 < 0)) (IntKind.u64.wrap (a0)))
theorem correctorlaw15_text.mono_l : ∀ k, (∀ y0 y1 y2, LeO (correctorlaw15_text.j0 k y0 y1 y2) (correctorlaw15_text.j0 (k + 1) y0 y1 y2)) ∧ (∀ y0 y1 y2 y3, LeO (correctorlaw15_text.l0 k y0 y1 y2 y3) (correctorlaw15_text.l0 (k + 1) y0 y1 y2 y3))
  | 0 => ⟨fun _ _ _ r h => by simp [correctorlaw15_text.j0] at h, fun _ _ _ _ r h => by simp [correctorlaw15_text.l0] at h⟩
  | k + 1 => by
    obtain ⟨ih0, ih1⟩ := correctorlaw15_text.mono_l k
    refine ⟨?_, ?_⟩
    · intro y0 y1 y2
      unfold correctorlaw15_text.j0
      repeat' first
      | (with_reducible exact ih0 _ _ _)
      | (with_reducible exact ih1 _ _ _ _)
      | (with_reducible exact LeO.refl _)
      | (with_reducible exact LeO.none _)
      | (with_reducible refine LeO.ite ?_ ?_)
      | (with_reducible refine LeO.bind ?_ (fun _ => ?_))
      | exact ih0 _ _ _
      | exact ih1 _ _ _ _
      | exact LeO.none _
      | refine LeO.ite ?_ ?_
      | refine LeO.bind ?_ (fun _ => ?_)
    · intro y0 y1 y2 y3
      unfold correctorlaw15_text.l0
      repeat' first
      | (with_reducible exact ih0 _ _ _)
      | (with_reducible exact ih1 _ _ _ _)
      | (with_reducible exact LeO.refl _)
      | (with_reducible exact LeO.none _)
      | (with_reducible refine LeO.ite ?_ ?_)
      | (with_reducible refine LeO.bind ?_ (fun _ => ?_))
      | exact ih0 _ _ _
      | exact ih1 _ _ _ _
      | exact LeO.none _
      | refine LeO.ite ?_ ?_
      | refine LeO.bind ?_ (fun _ => ?_)
theorem correctorlaw15_text.mono : ∀ a0 a1 k, LeO (correctorlaw15_text.f k a0 a1) (correctorlaw15_text.f (k + 1) a0 a1) := by
  intro a0 a1 k
  obtain ⟨ih0, ih1⟩ := correctorlaw15_text.mono_l k
  unfold correctorlaw15_text.f
  repeat' first
      | (with_reducible exact ih0 _ _ _)
      | (with_reducible exact ih1 _ _ _ _)
      | (with_reducible exact LeO.refl _)
      | (with_reducible exact LeO.none _)
      | (with_reducible refine LeO.ite ?_ ?_)
      | (with_reducible refine LeO.bind ?_ (fun _ => ?_))
      | exact ih0 _ _ _
      | exact ih1 _ _ _ _
      | exact LeO.none _
      | refine LeO.ite ?_ ?_
      | refine LeO.bind ?_ (fun _ => ?_)
set_option maxHeartbeats 8000000 in
set_option maxRecDepth 100000 in
theorem correctorlaw15_text.calls (k : Nat) (a0 : Int) (a1 : Int) (r : ByteArray) (w : World) (h : correctorlaw15_text.f k a0 a1 = some r) :
    Calls Try.prog 25 #[.int .i64 a0, .int .i64 a1] w fun e w' => e = .returned (.string r) ∧ Drawn0 w w' := by
  have H : (if a0 < 0 then (correctorlaw15_text.j0 k a1 (decide (a0 < 0)) (IntKind.u64.wrap (-(IntKind.u64.wrap (a0))))) else (correctorlaw15_text.j0 k a1 (decide (a0 < 0)) (IntKind.u64.wrap (a0)))) = some r := h
  clear h
  have HC3 := Aside0.mk H
  clear H
  go_enter Try.func25, Try.ntmps25
  go_upto_if 13 with (fail)
  go_cut [5, 6] (fun v5 v6 wc => ∃ (kq : Nat) (x5_2 : Bool) (x6_2 : Int), v5 = .bool x5_2 ∧ v6 = .int .u64 x6_2 ∧ Aside0 (correctorlaw15_text.j0 kq a1 x5_2 x6_2 = some r) ∧ Aside0 (kq ≤ k) ∧ Drawn0 w wc)
  case first =>
    have H := HC3.out
    clear HC3
    by_cases c4 : a0 < 0
    · rw [if_pos c4] at H
      have c4b0 : decide (a0 < 0) = true := decide_eq_true c4
      clear c4
      (first | rw [c4b0] | (simp only [i64_w, i32_w]; rw [c4b0]) | skip)
      have H' := Aside0.mk H
      clear H
      go_wp2
      go_meet
      case rel => exact ⟨_, (decide (a0 < 0)), (IntKind.u64.wrap (-(IntKind.u64.wrap (a0)))), (by first | rfl | (simp; done) | (simp [*]; done)), (by first | rfl | (simp; done) | (simp [*]; done)), H', ⟨by first | omega | exact Nat.le_refl _⟩, by repeat (first | exact Drawn0.refl _ | apply Drawn0.step)⟩
    · rw [if_neg c4] at H
      have c4b0 : decide (a0 < 0) = false := decide_eq_false c4
      clear c4
      (first | rw [c4b0] | (simp only [i64_w, i32_w]; rw [c4b0]) | skip)
      have H' := Aside0.mk H
      clear H
      go_wp2
      go_meet
      case rel => exact ⟨_, (decide (a0 < 0)), (IntKind.u64.wrap (a0)), (by first | rfl | (simp; done) | (simp [*]; done)), (by first | rfl | (simp; done) | (simp [*]; done)), H', ⟨by first | omega | exact Nat.le_refl _⟩, by repeat (first | exact Drawn0.refl _ | apply Drawn0.step)⟩
  case rest =>
    clear HC3
    try clear c2
    try clear p2
    try clear c4
    try clear c4b0
    obtain ⟨kq, x5_2, x6_2, rfl, rfl, HA, HJ2, ⟨mc2, rfl⟩⟩ := hcut
    cases kq with
    | zero => exact absurd HA.out (by simp [correctorlaw15_text.j0])
    | succ kj2 =>
      have H := HA.out
      clear HA
      simp only [correctorlaw15_text.j0] at H
      have H' := Aside0.mk H
      clear H
      go_wp2
      go_loopg [6, 7] kj2 (fun kq v6 v7 w' => ∃ (x6_2 : Int) (x7_2 : ByteArray), v6 = .int .u64 x6_2 ∧ v7 = .string x7_2 ∧ Aside0 (correctorlaw15_text.l0 kq a1 x5_2 x6_2 x7_2 = some r) ∧ Aside0 (kq ≤ kj2) ∧ Drawn0 w w')
      case atStart => exact ⟨(x6_2), ((⟨#[]⟩ : ByteArray)), (by first | rfl | (simp; done) | (simp [*]; done)), (by first | rfl | (simp; done) | (simp [*]; done)), H', ⟨Nat.le_refl _⟩, by repeat (first | exact Drawn0.refl _ | apply Drawn0.step)⟩
      case round =>
        clear H'
        try clear c2
        try clear p2
        try clear c4
        try clear c4b0
        try clear p2
        obtain ⟨x6_2, x7_2, rfl, rfl, HA, HK2, ⟨m2, rfl⟩⟩ := hrel
        cases gk with
        | zero => exact absurd HA.out (by simp [correctorlaw15_text.l0])
        | succ k2 =>
          have H := HA.out
          clear HA
          simp only [correctorlaw15_text.l0] at H
          by_cases c5 : x6_2 > 0
          · rw [if_pos c5] at H
            have c5b0 : decide (0 < x6_2) = true := decide_eq_true c5
            clear c5
            by_cases c6 : (IntKind.u64.wrap (a1)) = 0
            · rw [if_pos c6] at H
              exact absurd H (by simp)
            · rw [if_neg c6] at H
              have c6b0 : ((IntKind.u64.wrap (a1)) == 0) = false := beq_eq_false_iff_ne.mpr c6
              have c6b1 : ((IntKind.u64.wrap (a1)) != 0) = true := bne_iff_ne.mpr c6
              obtain ⟨ji7, hji7⟩ : ∃ j_ : Int, (Int.tmod x6_2 (IntKind.u64.wrap (a1))) = j_ := ⟨_, rfl⟩
              replace H : (if 0 ≤ (ji7) then (if (ji7) ≤ (IntKind.u64.wrap ((ji7) + 1)) then (if (IntKind.u64.wrap ((ji7) + 1)) ≤ 16 then (if ((⟨#[48, 49, 50, 51, 52, 53, 54, 55, 56, 57, 97, 98, 99, 100, 101, 102]⟩ : ByteArray).extract ((ji7) : Int).toNat ((IntKind.u64.wrap ((ji7) + 1)) : Int).toNat).size + x7_2.size ≤ 9223372036854775807 then (correctorlaw15_text.l0 k2 a1 x5_2 (IntKind.u64.wrap (Int.tdiv x6_2 (IntKind.u64.wrap (a1)))) (((⟨#[48, 49, 50, 51, 52, 53, 54, 55, 56, 57, 97, 98, 99, 100, 101, 102]⟩ : ByteArray).extract ((ji7) : Int).toNat ((IntKind.u64.wrap ((ji7) + 1)) : Int).toNat) ++ x7_2)) else (none)) else (none)) else (none)) else (none)) = some r := by first | (rw [hji7] at H; exact H) | (simp only [hji7] at H ⊢; exact H)
              by_cases c8 : 0 ≤ (ji7)
              · rw [if_pos c8] at H
                have c8b0 := eq_true c8
                have c8b1 : decide (0 ≤ (ji7)) = true := decide_eq_true c8
                clear c8
                by_cases c9 : (ji7) ≤ (IntKind.u64.wrap ((ji7) + 1))
                · rw [if_pos c9] at H
                  have c9b0 := eq_true c9
                  have c9b1 : decide ((ji7) ≤ (IntKind.u64.wrap ((ji7) + 1))) = true := decide_eq_true c9
                  (try (have c9y := eq_true (show 0 ≤ (IntKind.u64.wrap ((ji7) + 1)) from Int.le_trans (of_eq_true (by assumption : (0 ≤ (ji7)) = True)) c9)))
                  by_cases c10 : (IntKind.u64.wrap ((ji7) + 1)) ≤ 16
                  · rw [if_pos c10] at H
                    have c10b0 := eq_true c10
                    have c10b1 : decide ((IntKind.u64.wrap ((ji7) + 1)) ≤ 16) = true := decide_eq_true c10
                    by_cases c11 : ((⟨#[48, 49, 50, 51, 52, 53, 54, 55, 56, 57, 97, 98, 99, 100, 101, 102]⟩ : ByteArray).extract ((ji7) : Int).toNat ((IntKind.u64.wrap ((ji7) + 1)) : Int).toNat).size + x7_2.size ≤ 9223372036854775807
                    · rw [if_pos c11] at H
                      have c11b0 := eq_true c11
                      have c11b1 : decide (((⟨#[48, 49, 50, 51, 52, 53, 54, 55, 56, 57, 97, 98, 99, 100, 101, 102]⟩ : ByteArray).extract ((ji7) : Int).toNat ((IntKind.u64.wrap ((ji7) + 1)) : Int).toNat).size + x7_2.size ≤ 9223372036854775807) = true := decide_eq_true c11
                      try have c11b2 : (9223372036854775807 < ((⟨#[48, 49, 50, 51, 52, 53, 54, 55, 56, 57, 97, 98, 99, 100, 101, 102]⟩ : ByteArray).extract ((ji7) : Int).toNat ((IntKind.u64.wrap ((ji7) + 1)) : Int).toNat).size + x7_2.size) = False := eq_false (Nat.not_lt.2 c11)
                      have H' := Aside0.mk H
                      clear H
                      go_wp2
                      go_roundg k2
                      case measure => have := HJ2.out; have := HK2.out; omega
                      case rel => exact ⟨(IntKind.u64.wrap (Int.tdiv x6_2 (IntKind.u64.wrap (a1)))), (((⟨#[48, 49, 50, 51, 52, 53, 54, 55, 56, 57, 97, 98, 99, 100, 101, 102]⟩ : ByteArray).extract ((ji7) : Int).toNat ((IntKind.u64.wrap ((ji7) + 1)) : Int).toNat) ++ x7_2), (by first | rfl | (simp; done) | (simp [*]; done)), (by first | rfl | (simp; done) | (simp only [← hji7] <;> (first | rfl | simp)) | (simp [*]; done)), (by first | exact H' | (simp only [hji7]; exact H') | (rw [hji7]; exact H')), ⟨by have := HJ2.out; have := HK2.out; omega⟩, by repeat (first | exact Drawn0.refl _ | apply Drawn0.step)⟩
                    · rw [if_neg c11] at H
                      exact absurd H (by simp)
                  · rw [if_neg c10] at H
                    exact absurd H (by simp)
                · rw [if_neg c9] at H
                  exact absurd H (by simp)
              · rw [if_neg c8] at H
                exact absurd H (by simp)
          · rw [if_neg c5] at H
            have c5b0 : decide (0 < x6_2) = false := decide_eq_false c5
            clear c5
            by_cases c12 : x7_2.toList = ([] : List UInt8)
            · rw [if_pos c12] at H
              have c12b0 : (x7_2.toList == ([] : List UInt8)) = true := beq_iff_eq.mpr c12
              have c12b1 : (x7_2.toList != ([] : List UInt8)) = false := bne_eq_false_iff_eq.mpr c12
              (try (have c12b2 : x7_2.toList.isEmpty = true := by simpa using c12))
              clear c12
              by_cases c13 : (IntKind.u64.wrap (a1)) = 0
              · rw [if_pos c13] at H
                exact absurd H (by simp)
              · rw [if_neg c13] at H
                have c13b0 : ((IntKind.u64.wrap (a1)) == 0) = false := beq_eq_false_iff_ne.mpr c13
                have c13b1 : ((IntKind.u64.wrap (a1)) != 0) = true := bne_iff_ne.mpr c13
                obtain ⟨ji14, hji14⟩ : ∃ j_ : Int, (Int.tmod x6_2 (IntKind.u64.wrap (a1))) = j_ := ⟨_, rfl⟩
                replace H : (if 0 ≤ (ji14) then (if (ji14) ≤ (IntKind.u64.wrap ((ji14) + 1)) then (if (IntKind.u64.wrap ((ji14) + 1)) ≤ 16 then (if ((⟨#[48, 49, 50, 51, 52, 53, 54, 55, 56, 57, 97, 98, 99, 100, 101, 102]⟩ : ByteArray).extract ((ji14) : Int).toNat ((IntKind.u64.wrap ((ji14) + 1)) : Int).toNat).size + x7_2.size ≤ 9223372036854775807 then (correctorlaw15_text.l0 k2 a1 x5_2 (IntKind.u64.wrap (Int.tdiv x6_2 (IntKind.u64.wrap (a1)))) (((⟨#[48, 49, 50, 51, 52, 53, 54, 55, 56, 57, 97, 98, 99, 100, 101, 102]⟩ : ByteArray).extract ((ji14) : Int).toNat ((IntKind.u64.wrap ((ji14) + 1)) : Int).toNat) ++ x7_2)) else (none)) else (none)) else (none)) else (none)) = some r := by first | (rw [hji14] at H; exact H) | (simp only [hji14] at H ⊢; exact H)
                by_cases c15 : 0 ≤ (ji14)
                · rw [if_pos c15] at H
                  have c15b0 := eq_true c15
                  have c15b1 : decide (0 ≤ (ji14)) = true := decide_eq_true c15
                  clear c15
                  by_cases c16 : (ji14) ≤ (IntKind.u64.wrap ((ji14) + 1))
                  · rw [if_pos c16] at H
                    have c16b0 := eq_true c16
                    have c16b1 : decide ((ji14) ≤ (IntKind.u64.wrap ((ji14) + 1))) = true := decide_eq_true c16
                    (try (have c16y := eq_true (show 0 ≤ (IntKind.u64.wrap ((ji14) + 1)) from Int.le_trans (of_eq_true (by assumption : (0 ≤ (ji14)) = True)) c16)))
                    by_cases c17 : (IntKind.u64.wrap ((ji14) + 1)) ≤ 16
                    · rw [if_pos c17] at H
                      have c17b0 := eq_true c17
                      have c17b1 : decide ((IntKind.u64.wrap ((ji14) + 1)) ≤ 16) = true := decide_eq_true c17
                      by_cases c18 : ((⟨#[48, 49, 50, 51, 52, 53, 54, 55, 56, 57, 97, 98, 99, 100, 101, 102]⟩ : ByteArray).extract ((ji14) : Int).toNat ((IntKind.u64.wrap ((ji14) + 1)) : Int).toNat).size + x7_2.size ≤ 9223372036854775807
                      · rw [if_pos c18] at H
                        have c18b0 := eq_true c18
                        have c18b1 : decide (((⟨#[48, 49, 50, 51, 52, 53, 54, 55, 56, 57, 97, 98, 99, 100, 101, 102]⟩ : ByteArray).extract ((ji14) : Int).toNat ((IntKind.u64.wrap ((ji14) + 1)) : Int).toNat).size + x7_2.size ≤ 9223372036854775807) = true := decide_eq_true c18
                        try have c18b2 : (9223372036854775807 < ((⟨#[48, 49, 50, 51, 52, 53, 54, 55, 56, 57, 97, 98, 99, 100, 101, 102]⟩ : ByteArray).extract ((ji14) : Int).toNat ((IntKind.u64.wrap ((ji14) + 1)) : Int).toNat).size + x7_2.size) = False := eq_false (Nat.not_lt.2 c18)
                        have H' := Aside0.mk H
                        clear H
                        go_wp2
                        go_roundg k2
                        case measure => have := HJ2.out; have := HK2.out; omega
                        case rel => exact ⟨(IntKind.u64.wrap (Int.tdiv x6_2 (IntKind.u64.wrap (a1)))), (((⟨#[48, 49, 50, 51, 52, 53, 54, 55, 56, 57, 97, 98, 99, 100, 101, 102]⟩ : ByteArray).extract ((ji14) : Int).toNat ((IntKind.u64.wrap ((ji14) + 1)) : Int).toNat) ++ x7_2), (by first | rfl | (simp; done) | (simp [*]; done)), (by first | rfl | (simp; done) | (simp only [← hji14] <;> (first | rfl | simp)) | (simp [*]; done)), (by first | exact H' | (simp only [hji14]; exact H') | (rw [hji14]; exact H')), ⟨by have := HJ2.out; have := HK2.out; omega⟩, by repeat (first | exact Drawn0.refl _ | apply Drawn0.step)⟩
                      · rw [if_neg c18] at H
                        exact absurd H (by simp)
                    · rw [if_neg c17] at H
                      exact absurd H (by simp)
                  · rw [if_neg c16] at H
                    exact absurd H (by simp)
                · rw [if_neg c15] at H
                  exact absurd H (by simp)
            · rw [if_neg c12] at H
              have c12b0 : (x7_2.toList == ([] : List UInt8)) = false := beq_eq_false_iff_ne.mpr c12
              have c12b1 : (x7_2.toList != ([] : List UInt8)) = true := bne_iff_ne.mpr c12
              (try (have c12b2 : x7_2.toList.isEmpty = false := by simpa using c12))
              by_cases c19 : x5_2 = true
              · subst c19
                have H1 : (if 1 + x7_2.size ≤ 9223372036854775807 then (some ((⟨#[45]⟩ : ByteArray) ++ x7_2)) else (none)) = some r := by rw [if_pos rfl] at H; exact H
                clear H
                have H := H1
                clear H1
                by_cases c20 : 1 + x7_2.size ≤ 9223372036854775807
                · rw [if_pos c20] at H
                  have c20b0 := eq_true c20
                  have c20b1 : decide (1 + x7_2.size ≤ 9223372036854775807) = true := decide_eq_true c20
                  try have c20b2 : (9223372036854775807 < 1 + x7_2.size) = False := eq_false (Nat.not_lt.2 c20)
                  obtain rfl := Option.some.inj H
                  go_wp2
                  go_ret
                  exact ⟨by first | rfl | (simp; done) | (simp [*]; done), by repeat (first | exact Drawn0.refl _ | apply Drawn0.step)⟩
                · rw [if_neg c20] at H
                  exact absurd H (by simp)
              · replace c19 := Bool.eq_false_iff.mpr c19
                subst c19
                have H1 : (some x7_2) = some r := by rw [if_neg (show ¬ (false = true) by decide)] at H; exact H
                clear H
                have H := H1
                clear H1
                obtain rfl := Option.some.inj H
                go_wp2
                go_ret
                exact ⟨by first | rfl | (simp; done) | (simp [*]; done), by repeat (first | exact Drawn0.refl _ | apply Drawn0.step)⟩

/-! ### correctorlaw15_within: function 27 -/
def correctorlaw15_within.f (a0 : Int) (a1 : Int) : Option (Int) := if a1 = 0 then (none) else (if (Int.tmod a0 a1) < 0 then (some (wrap64 ((Int.tmod a0 a1) + a1))) else (some (Int.tmod a0 a1)))
set_option maxHeartbeats 8000000 in
set_option maxRecDepth 100000 in
theorem correctorlaw15_within.calls (a0 : Int) (a1 : Int) (r : Int) (w : World) (h : correctorlaw15_within.f a0 a1 = some r) :
    Calls Try.prog 27 #[.int .i64 a0, .int .i64 a1] w fun e w' => e = .returned (.int .i64 r) ∧ Drawn0 w w' := by
  have H : (if a1 = 0 then (none) else (if (Int.tmod a0 a1) < 0 then (some (wrap64 ((Int.tmod a0 a1) + a1))) else (some (Int.tmod a0 a1)))) = some r := h
  clear h
  by_cases c3 : a1 = 0
  · rw [if_pos c3] at H
    exact absurd H (by simp)
  · rw [if_neg c3] at H
    have c3b0 : (a1 == 0) = false := beq_eq_false_iff_ne.mpr c3
    have c3b1 : (a1 != 0) = true := bne_iff_ne.mpr c3
    by_cases c4 : (Int.tmod a0 a1) < 0
    · rw [if_pos c4] at H
      have c4b0 : decide ((Int.tmod a0 a1) < 0) = true := decide_eq_true c4
      clear c4
      obtain rfl := Option.some.inj H
      go_enter Try.func27, Try.ntmps27
      go_wp2
      go_ret
      exact ⟨by first | rfl | (simp; done) | (simp [*]; done), by repeat (first | exact Drawn0.refl _ | apply Drawn0.step)⟩
    · rw [if_neg c4] at H
      have c4b0 : decide ((Int.tmod a0 a1) < 0) = false := decide_eq_false c4
      clear c4
      obtain rfl := Option.some.inj H
      go_enter Try.func27, Try.ntmps27
      go_wp2
      go_ret
      exact ⟨by first | rfl | (simp; done) | (simp [*]; done), by repeat (first | exact Drawn0.refl _ | apply Drawn0.step)⟩

/-! ### correctorlaw15_Word: function 28 -/
def correctorlaw15_Word.l0 : Nat → List Int → List ByteArray → ByteArray → Int → Option (ByteArray)
  | 0, _, _, _, _ => none
  | k + 1, x0, x3, x4, x5 => if x5 < (x0.length : Int) then (if x5 < 8 then (if 0 ≤ x5 then ((correctorlaw15_within.f (rd x0 x5) (x3.length : Int)).bind fun t276 => (if 0 ≤ t276 then (if t276 < (x3.length : Int) then (if x4.size + (rdOf ByteArray.empty x3 t276).size ≤ 9223372036854775807 then (correctorlaw15_Word.l0 k x0 x3 (x4 ++ (rdOf ByteArray.empty x3 t276)) (wrap64 (x5 + 1))) else (none)) else (none)) else (none))) else (none)) else (some x4)) else (some x4)
def correctorlaw15_Word.f (k : Nat) (l0 : List Int) : Option (ByteArray) := correctorlaw15_Word.l0 k l0 (([(⟨#[48]⟩ : ByteArray), (⟨#[49]⟩ : ByteArray), (⟨#[55]⟩ : ByteArray), (⟨#[57]⟩ : ByteArray), (⟨#[49, 50]⟩ : ByteArray), (⟨#[46]⟩ : ByteArray), (⟨#[101]⟩ : ByteArray), (⟨#[69]⟩ : ByteArray), (⟨#[43]⟩ : ByteArray), (⟨#[45]⟩ : ByteArray), (⟨#[48, 120]⟩ : ByteArray), (⟨#[48, 111]⟩ : ByteArray), (⟨#[102]⟩ : ByteArray), (⟨#[65]⟩ : ByteArray), (⟨#[46, 105, 110, 102]⟩ : ByteArray), (⟨#[46, 110, 97, 110]⟩ : ByteArray), (⟨#[110, 117, 108, 108]⟩ : ByteArray), (⟨#[116, 114, 117, 101]⟩ : ByteArray), (⟨#[126]⟩ : ByteArray), (⟨#[97]⟩ : ByteArray), (⟨#[32]⟩ : ByteArray), (⟨#[95]⟩ : ByteArray)] : List ByteArray)) (⟨#[]⟩ : ByteArray) 0
theorem correctorlaw15_Word.mono_l : ∀ k, (∀ y0 y1 y2 y3, LeO (correctorlaw15_Word.l0 k y0 y1 y2 y3) (correctorlaw15_Word.l0 (k + 1) y0 y1 y2 y3))
  | 0 => fun _ _ _ _ r h => by simp [correctorlaw15_Word.l0] at h
  | k + 1 => by
    have ih0 := correctorlaw15_Word.mono_l k
    · intro y0 y1 y2 y3
      unfold correctorlaw15_Word.l0
      repeat' first
      | (with_reducible exact ih0 _ _ _ _)
      | (with_reducible exact LeO.refl _)
      | (with_reducible exact LeO.none _)
      | (with_reducible refine LeO.ite ?_ ?_)
      | (with_reducible refine LeO.bind ?_ (fun _ => ?_))
      | exact ih0 _ _ _ _
      | exact LeO.none _
      | refine LeO.ite ?_ ?_
      | refine LeO.bind ?_ (fun _ => ?_)
theorem correctorlaw15_Word.mono : ∀ a0 k, LeO (correctorlaw15_Word.f k a0) (correctorlaw15_Word.f (k + 1) a0) := by
  intro a0 k
  have ih0 := correctorlaw15_Word.mono_l k
  unfold correctorlaw15_Word.f
  repeat' first
      | (with_reducible exact ih0 _ _ _ _)
      | (with_reducible exact LeO.refl _)
      | (with_reducible exact LeO.none _)
      | (with_reducible refine LeO.ite ?_ ?_)
      | (with_reducible refine LeO.bind ?_ (fun _ => ?_))
      | exact ih0 _ _ _ _
      | exact LeO.none _
      | refine LeO.ite ?_ ?_
      | refine LeO.bind ?_ (fun _ => ?_)
set_option maxHeartbeats 8000000 in
set_option maxRecDepth 100000 in
theorem correctorlaw15_Word.calls (k : Nat) (A0 : Option Addr) (c0 : Nat) (l0 : List Int) (r : ByteArray) (w : World) (hr0 : Kd.C (Kd.int .i64) w A0 l0.length l0) (hc0 : l0.length ≤ c0) (h : correctorlaw15_Word.f k l0 = some r) :
    Calls Try.prog 28 #[.slice A0 l0.length c0] w fun e w' => e = .returned (.string r) ∧ Below w.heap.size w w' := by
  have HR0 := Aside0.mk hr0
  have HC0 := Aside0.mk hc0
  clear hr0 hc0
  have HB := Aside0.mk (Below.refl w.heap.size w)
  have H : (correctorlaw15_Word.l0 k l0 (([(⟨#[48]⟩ : ByteArray), (⟨#[49]⟩ : ByteArray), (⟨#[55]⟩ : ByteArray), (⟨#[57]⟩ : ByteArray), (⟨#[49, 50]⟩ : ByteArray), (⟨#[46]⟩ : ByteArray), (⟨#[101]⟩ : ByteArray), (⟨#[69]⟩ : ByteArray), (⟨#[43]⟩ : ByteArray), (⟨#[45]⟩ : ByteArray), (⟨#[48, 120]⟩ : ByteArray), (⟨#[48, 111]⟩ : ByteArray), (⟨#[102]⟩ : ByteArray), (⟨#[65]⟩ : ByteArray), (⟨#[46, 105, 110, 102]⟩ : ByteArray), (⟨#[46, 110, 97, 110]⟩ : ByteArray), (⟨#[110, 117, 108, 108]⟩ : ByteArray), (⟨#[116, 114, 117, 101]⟩ : ByteArray), (⟨#[126]⟩ : ByteArray), (⟨#[97]⟩ : ByteArray), (⟨#[32]⟩ : ByteArray), (⟨#[95]⟩ : ByteArray)] : List ByteArray)) (⟨#[]⟩ : ByteArray) 0) = some r := h
  clear h
  obtain ⟨y272, hy272⟩ : ∃ y_ : List ByteArray, y_ = (([(⟨#[48]⟩ : ByteArray), (⟨#[49]⟩ : ByteArray), (⟨#[55]⟩ : ByteArray), (⟨#[57]⟩ : ByteArray), (⟨#[49, 50]⟩ : ByteArray), (⟨#[46]⟩ : ByteArray), (⟨#[101]⟩ : ByteArray), (⟨#[69]⟩ : ByteArray), (⟨#[43]⟩ : ByteArray), (⟨#[45]⟩ : ByteArray), (⟨#[48, 120]⟩ : ByteArray), (⟨#[48, 111]⟩ : ByteArray), (⟨#[102]⟩ : ByteArray), (⟨#[65]⟩ : ByteArray), (⟨#[46, 105, 110, 102]⟩ : ByteArray), (⟨#[46, 110, 97, 110]⟩ : ByteArray), (⟨#[110, 117, 108, 108]⟩ : ByteArray), (⟨#[116, 114, 117, 101]⟩ : ByteArray), (⟨#[126]⟩ : ByteArray), (⟨#[97]⟩ : ByteArray), (⟨#[32]⟩ : ByteArray), (⟨#[95]⟩ : ByteArray)] : List ByteArray)) := ⟨_, rfl⟩
  replace H : (correctorlaw15_Word.l0 k l0 y272 (⟨#[]⟩ : ByteArray) 0) = some r := by first | (rw [hy272]; with_reducible exact H) | (have H2_ := (Option.bind_some _ _).symm.trans H; rw [hy272]; with_reducible exact H2_) | (have H2_ := (Option.bind_some _ _).symm.trans H; with_reducible exact H2_) | with_reducible exact H | (rw [hy272]; exact H) | exact H
  have Ny272 := Aside0.mk hy272
  clear hy272
  have H' := Aside0.mk H
  clear H
  go_enter Try.func28, Try.ntmps28
  go_wp2_with (first | ((with_reducible refine gate_dst (N := 6) rfl ?_); refine Kd.R_lit Kd.string _ 9 ?hg (N := 6) ?hd (xs := ([(⟨#[48]⟩ : ByteArray), (⟨#[49]⟩ : ByteArray), (⟨#[55]⟩ : ByteArray), (⟨#[57]⟩ : ByteArray), (⟨#[49, 50]⟩ : ByteArray), (⟨#[46]⟩ : ByteArray), (⟨#[101]⟩ : ByteArray), (⟨#[69]⟩ : ByteArray), (⟨#[43]⟩ : ByteArray), (⟨#[45]⟩ : ByteArray), (⟨#[48, 120]⟩ : ByteArray), (⟨#[48, 111]⟩ : ByteArray), (⟨#[102]⟩ : ByteArray), (⟨#[65]⟩ : ByteArray), (⟨#[46, 105, 110, 102]⟩ : ByteArray), (⟨#[46, 110, 97, 110]⟩ : ByteArray), (⟨#[110, 117, 108, 108]⟩ : ByteArray), (⟨#[116, 114, 117, 101]⟩ : ByteArray), (⟨#[126]⟩ : ByteArray), (⟨#[97]⟩ : ByteArray), (⟨#[32]⟩ : ByteArray), (⟨#[95]⟩ : ByteArray)] : List ByteArray)) (inner := [.string (⟨#[48]⟩ : ByteArray), .string (⟨#[49]⟩ : ByteArray), .string (⟨#[55]⟩ : ByteArray), .string (⟨#[57]⟩ : ByteArray), .string (⟨#[49, 50]⟩ : ByteArray), .string (⟨#[46]⟩ : ByteArray), .string (⟨#[101]⟩ : ByteArray), .string (⟨#[69]⟩ : ByteArray), .string (⟨#[43]⟩ : ByteArray), .string (⟨#[45]⟩ : ByteArray), .string (⟨#[48, 120]⟩ : ByteArray), .string (⟨#[48, 111]⟩ : ByteArray), .string (⟨#[102]⟩ : ByteArray), .string (⟨#[65]⟩ : ByteArray), .string (⟨#[46, 105, 110, 102]⟩ : ByteArray), .string (⟨#[46, 110, 97, 110]⟩ : ByteArray), .string (⟨#[110, 117, 108, 108]⟩ : ByteArray), .string (⟨#[116, 114, 117, 101]⟩ : ByteArray), .string (⟨#[126]⟩ : ByteArray), .string (⟨#[97]⟩ : ByteArray), .string (⟨#[32]⟩ : ByteArray), .string (⟨#[95]⟩ : ByteArray)]) (ok := fun _ => True) (okp := fun _ => True) ?hr ?hp (fun _ hk => hk) trivial (Below.refl _ _) (Nat.le_refl _) (by simp) ?_; (case hd => rfl); (case hg => rfl); (case hr => first | (go_simp; done) | (go_simp; rfl)); (case hp => exact (Reps.one (show Kd.M Kd.string _ _ _ (⟨#[48]⟩ : ByteArray) [.string (⟨#[48]⟩ : ByteArray)] from rfl) (Reps.one (show Kd.M Kd.string _ _ _ (⟨#[49]⟩ : ByteArray) [.string (⟨#[49]⟩ : ByteArray)] from rfl) (Reps.one (show Kd.M Kd.string _ _ _ (⟨#[55]⟩ : ByteArray) [.string (⟨#[55]⟩ : ByteArray)] from rfl) (Reps.one (show Kd.M Kd.string _ _ _ (⟨#[57]⟩ : ByteArray) [.string (⟨#[57]⟩ : ByteArray)] from rfl) (Reps.one (show Kd.M Kd.string _ _ _ (⟨#[49, 50]⟩ : ByteArray) [.string (⟨#[49, 50]⟩ : ByteArray)] from rfl) (Reps.one (show Kd.M Kd.string _ _ _ (⟨#[46]⟩ : ByteArray) [.string (⟨#[46]⟩ : ByteArray)] from rfl) (Reps.one (show Kd.M Kd.string _ _ _ (⟨#[101]⟩ : ByteArray) [.string (⟨#[101]⟩ : ByteArray)] from rfl) (Reps.one (show Kd.M Kd.string _ _ _ (⟨#[69]⟩ : ByteArray) [.string (⟨#[69]⟩ : ByteArray)] from rfl) (Reps.one (show Kd.M Kd.string _ _ _ (⟨#[43]⟩ : ByteArray) [.string (⟨#[43]⟩ : ByteArray)] from rfl) (Reps.one (show Kd.M Kd.string _ _ _ (⟨#[45]⟩ : ByteArray) [.string (⟨#[45]⟩ : ByteArray)] from rfl) (Reps.one (show Kd.M Kd.string _ _ _ (⟨#[48, 120]⟩ : ByteArray) [.string (⟨#[48, 120]⟩ : ByteArray)] from rfl) (Reps.one (show Kd.M Kd.string _ _ _ (⟨#[48, 111]⟩ : ByteArray) [.string (⟨#[48, 111]⟩ : ByteArray)] from rfl) (Reps.one (show Kd.M Kd.string _ _ _ (⟨#[102]⟩ : ByteArray) [.string (⟨#[102]⟩ : ByteArray)] from rfl) (Reps.one (show Kd.M Kd.string _ _ _ (⟨#[65]⟩ : ByteArray) [.string (⟨#[65]⟩ : ByteArray)] from rfl) (Reps.one (show Kd.M Kd.string _ _ _ (⟨#[46, 105, 110, 102]⟩ : ByteArray) [.string (⟨#[46, 105, 110, 102]⟩ : ByteArray)] from rfl) (Reps.one (show Kd.M Kd.string _ _ _ (⟨#[46, 110, 97, 110]⟩ : ByteArray) [.string (⟨#[46, 110, 97, 110]⟩ : ByteArray)] from rfl) (Reps.one (show Kd.M Kd.string _ _ _ (⟨#[110, 117, 108, 108]⟩ : ByteArray) [.string (⟨#[110, 117, 108, 108]⟩ : ByteArray)] from rfl) (Reps.one (show Kd.M Kd.string _ _ _ (⟨#[116, 114, 117, 101]⟩ : ByteArray) [.string (⟨#[116, 114, 117, 101]⟩ : ByteArray)] from rfl) (Reps.one (show Kd.M Kd.string _ _ _ (⟨#[126]⟩ : ByteArray) [.string (⟨#[126]⟩ : ByteArray)] from rfl) (Reps.one (show Kd.M Kd.string _ _ _ (⟨#[97]⟩ : ByteArray) [.string (⟨#[97]⟩ : ByteArray)] from rfl) (Reps.one (show Kd.M Kd.string _ _ _ (⟨#[32]⟩ : ByteArray) [.string (⟨#[32]⟩ : ByteArray)] from rfl) (Reps.one (show Kd.M Kd.string _ _ _ (⟨#[95]⟩ : ByteArray) [.string (⟨#[95]⟩ : ByteArray)] from rfl) (Reps.none _ _)))))))))))))))))))))))); intro v273 w2 ho3 hb hg_ hnew_; clear hg_ hnew_; (first | rw [← Ny272.out] at ho3 | (simp only [Int.reduceToNat] at ho3; rw [← Ny272.out] at ho3)); have n0_ := Aside0.mk (Kd.R_lower ho3 (below_size (by repeat (first | (with_reducible first | exact HB.out | apply below_alloc | apply pw_below_drewN | apply below_drew1) | exact HB.out)))); have n1_ := Aside0.mk (below_step (by repeat (first | (with_reducible first | exact HB.out | apply below_alloc | apply pw_below_drewN | apply below_drew1) | exact HB.out)) hb); clear HB; have HO274 := n0_; have HB := n1_; clear n0_ n1_; clear hb ho3))
  go_loopg [4, 5] k (fun kq v4 v5 w' => ∃ (x4_1 : ByteArray) (x5_1 : Int), v4 = .string x4_1 ∧ v5 = .int .i64 x5_1 ∧ Aside0 (correctorlaw15_Word.l0 kq l0 y272 x4_1 x5_1 = some r) ∧ Aside0 (kq ≤ k) ∧ Aside0 (Kd.R Kd.string 9 w' w.heap.size (fun _ => True) v273 y272) ∧ Aside0 (Below w.heap.size w w'))
  case atStart => exact ⟨((⟨#[]⟩ : ByteArray)), (0), (by first | rfl | (simp; done) | (simp [*]; done)), (by first | rfl | (simp; done) | (simp [*]; done)), H', ⟨Nat.le_refl _⟩, ⟨by (with_reducible repeat (first | apply Kd.R_alloc | apply Kd.R_drewN | apply Kd.R_drew)); exact HO274.out⟩, ⟨by repeat (first | (with_reducible first | exact HB.out | apply below_alloc | apply pw_below_drewN | apply below_drew1) | exact HB.out)⟩⟩
  case round =>
    clear H'
    try clear c2
    try clear p2
    obtain ⟨x4_1, x5_1, rfl, rfl, HA, HK1, HO_3, HB⟩ := hrel
    cases gk with
    | zero => exact absurd HA.out (by simp [correctorlaw15_Word.l0])
    | succ k1 =>
      have H := HA.out
      clear HA
      simp only [correctorlaw15_Word.l0] at H
      by_cases c4 : x5_1 < (l0.length : Int)
      · rw [if_pos c4] at H
        have c4b0 : decide (x5_1 < (l0.length : Int)) = true := decide_eq_true c4
        clear c4
        by_cases c5 : x5_1 < 8
        · rw [if_pos c5] at H
          have c5b0 : decide (x5_1 < 8) = true := decide_eq_true c5
          clear c5
          by_cases c6 : 0 ≤ x5_1
          · rw [if_pos c6] at H
            have c6b0 : decide (0 ≤ x5_1) = true := decide_eq_true c6
            clear c6
            replace H := Option.bind_eq_some_iff.mp H
            obtain ⟨t276, A70, H⟩ := H
            replace H : (if 0 ≤ t276 then (if t276 < (y272.length : Int) then (if x4_1.size + (rdOf ByteArray.empty y272 t276).size ≤ 9223372036854775807 then (correctorlaw15_Word.l0 k1 l0 y272 (x4_1 ++ (rdOf ByteArray.empty y272 t276)) (wrap64 (x5_1 + 1))) else (none)) else (none)) else (none)) = some r := H
            have A7 := Aside0.mk A70
            clear A70
            by_cases c8 : 0 ≤ t276
            · rw [if_pos c8] at H
              have c8b0 : decide (0 ≤ t276) = true := decide_eq_true c8
              clear c8
              by_cases c9 : t276 < (y272.length : Int)
              · rw [if_pos c9] at H
                have c9b0 : decide (t276 < (y272.length : Int)) = true := decide_eq_true c9
                clear c9
                by_cases c10 : x4_1.size + (rdOf ByteArray.empty y272 t276).size ≤ 9223372036854775807
                · rw [if_pos c10] at H
                  have c10b0 := eq_true c10
                  have c10b1 : decide (x4_1.size + (rdOf ByteArray.empty y272 t276).size ≤ 9223372036854775807) = true := decide_eq_true c10
                  try have c10b2 : (9223372036854775807 < x4_1.size + (rdOf ByteArray.empty y272 t276).size) = False := eq_false (Nat.not_lt.2 c10)
                  have H' := Aside0.mk H
                  clear H
                  have p275 : 0 ≤ (x5_1 : Int) := of_decide_eq_true (by first | (with_reducible assumption) | assumption)
                  have q275 : x5_1 < (l0.length : Int) := of_decide_eq_true (by first | (with_reducible assumption) | assumption)
                  obtain ⟨ad275, e275, hx275_0⟩ := Kd.at_int HR0.out x5_1 p275 q275
                  cases e275
                  replace hx275_0 := (HB.out.cell (World.block_lt_of_cell? w _ hx275_0)).trans hx275_0
                  replace p275 := eq_true p275
                  replace q275 := eq_true q275
                  obtain ⟨Ao11, co11, eo11⟩ := Kd.R_slice HO_3.out
                  subst eo11
                  go_wp2_with (first | ((with_reducible refine gate_callee (f := 27) rfl ?_); refine goesL_ (some 25) rfl rfl Try.func27 (by kernel_rfl) rfl #[.int .i64 (rd l0 x5_1), .int .i64 (y272.length : Int)] rfl (by (try simp only [List.map_toArray, List.map_cons, List.map_nil]); first | done | rfl | (simp only [List.length_drop, List.length_take]; rfl) | (simp only [ByteArray.size_extract, Nat.min_self]; done) | (simp only [ByteArray.size_extract, Nat.min_self]; rfl)) ?_; (with_reducible refine (correctorlaw15_within.calls (rd l0 x5_1) (y272.length : Int) t276 _ A7.out).mono ?_); rintro e w' ⟨rfl, ⟨nd, rfl⟩⟩; refine ⟨_, rfl, ?_⟩; have p277 : 0 ≤ (t276 : Int) := of_decide_eq_true (by first | (with_reducible assumption) | assumption); have q277 : t276 < (y272.length : Int) := of_decide_eq_true (by first | (with_reducible assumption) | assumption); obtain ⟨ad277, e277, hx277_0⟩ := Kd.at_string (Kd.R_reads' HO_3.out).2.2 t276 p277 q277; cases e277; replace p277 := eq_true p277; replace q277 := eq_true q277))
                  go_roundg k1
                  case measure => have := HK1.out; omega
                  case rel => exact ⟨(x4_1 ++ (rdOf ByteArray.empty y272 t276)), (wrap64 (x5_1 + 1)), (by first | rfl | (simp; done) | (simp [*]; done)), (by first | rfl | (simp; done) | (simp [*]; done)), H', ⟨by have := HK1.out; omega⟩, ⟨by (with_reducible repeat (first | apply Kd.R_alloc | apply Kd.R_drewN | apply Kd.R_drew)); exact HO_3.out⟩, ⟨by repeat (first | (with_reducible first | exact HB.out | apply below_alloc | apply pw_below_drewN | apply below_drew1) | exact HB.out)⟩⟩
                · rw [if_neg c10] at H
                  exact absurd H (by simp)
              · rw [if_neg c9] at H
                exact absurd H (by simp)
            · rw [if_neg c8] at H
              exact absurd H (by simp)
          · rw [if_neg c6] at H
            exact absurd H (by simp)
        · rw [if_neg c5] at H
          have c5b0 : decide (x5_1 < 8) = false := decide_eq_false c5
          clear c5
          obtain rfl := Option.some.inj H
          go_wp2
          go_ret
          exact ⟨by first | rfl | (simp [errW_none, errW_some] <;> rfl) | (simp [*, errW_none, errW_some] <;> rfl), by repeat (first | (with_reducible first | exact HB.out | apply below_alloc | apply pw_below_drewN | apply below_drew1) | exact HB.out)⟩
      · rw [if_neg c4] at H
        have c4b0 : decide (x5_1 < (l0.length : Int)) = false := decide_eq_false c4
        clear c4
        obtain rfl := Option.some.inj H
        go_wp2
        go_ret
        exact ⟨by first | rfl | (simp [errW_none, errW_some] <;> rfl) | (simp [*, errW_none, errW_some] <;> rfl), by repeat (first | (with_reducible first | exact HB.out | apply below_alloc | apply pw_below_drewN | apply below_drew1) | exact HB.out)⟩

end Go.Proofs.Ytpigemgiegbblaa.Q
