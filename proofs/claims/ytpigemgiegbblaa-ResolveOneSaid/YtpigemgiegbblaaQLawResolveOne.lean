/- Proved here, in the forms of the print's contracts: what each Go function answers, and the rows of the laws over it; by a program and by hand. -/
import Derived.Test.YtpigemgiegbblaaQ0
import Derived.Test.YtpigemgiegbblaaQcorrectorlaw15
import Derived.Test.YtpigemgiegbblaaQresolve
namespace Go.Proofs.Ytpigemgiegbblaa.Q
open Go.RowKit Go.Proofs.YtpigemgiegbblaaW.PrintWords Go.Proofs.YtpigemgiegbblaaW.PrintLast Go.Proofs.YtpigemgiegbblaaW.PrintMore
attribute [local go_sem] max2_int min2_int max_two min_two max_three min_three max_four min_four   -- for this text's walks alone
set_option linter.unusedVariables false
set_option linter.unusedSimpArgs false

/-! ### correctorlaw15_ResolveOne: function 11 -/
mutual
def correctorlaw15_ResolveOne.l0 : Nat → List ByteArray → Int → Option (Bool)
  | 0, _, _ => none
  | k + 1, x5, x6 => if x6 < 2 then (if 0 ≤ x6 then (if x6 < (x5.length : Int) then ((resolve_Int.f k (rdOf ByteArray.empty x5 x6)).bind fun bt363 => ((resolve_Kind.f k (rdOf ByteArray.empty x5 x6)).bind fun t366 => (if (bt363.2 != (t366 == 3)) = true then (correctorlaw15_ResolveOne.j1 k x5 x6 bt363.2 t366 true) else (if t366 < 1 then (correctorlaw15_ResolveOne.j1 k x5 x6 bt363.2 t366 true) else (if t366 > 5 then (correctorlaw15_ResolveOne.j1 k x5 x6 bt363.2 t366 true) else ((resolve_Tagged.f k (⟨#[33, 33, 115, 116, 114]⟩ : ByteArray) (rdOf ByteArray.empty x5 x6) true).bind fun t368 => (if t368 = 5 then ((resolve_Tagged.f k (⟨#[]⟩ : ByteArray) (rdOf ByteArray.empty x5 x6) false).bind fun t370 => (if t370 = 5 then ((resolve_Tagged.f k (⟨#[]⟩ : ByteArray) (rdOf ByteArray.empty x5 x6) true).bind fun t372 => (correctorlaw15_ResolveOne.j1 k x5 x6 bt363.2 t366 (t372 != t366))) else (correctorlaw15_ResolveOne.j1 k x5 x6 bt363.2 t366 true))) else (correctorlaw15_ResolveOne.j1 k x5 x6 bt363.2 t366 true)))))))) else (none)) else (none)) else (some true)
def correctorlaw15_ResolveOne.j1 : Nat → List ByteArray → Int → Bool → Int → Bool → Option (Bool)
  | 0, _, _, _, _, _ => none
  | k + 1, x5, x6, x8, x9, x69 => if x69 = true then (some false) else (if 0 ≤ x6 then (if x6 < (x5.length : Int) then ((resolve_Tagged.f k (⟨#[33, 33, 105, 110, 116]⟩ : ByteArray) (rdOf ByteArray.empty x5 x6) false).bind fun t374 => (if ((t374 == 3) != x8) = true then (some false) else ((resolve_Tagged.f k (⟨#[33, 33, 102, 108, 111, 97, 116]⟩ : ByteArray) (rdOf ByteArray.empty x5 x6) false).bind fun t376 => (if x8 = true then (if ((t376 == 4) != true) = true then (some false) else (correctorlaw15_ResolveOne.l0 k x5 (wrap64 (x6 + 1)))) else (if ((t376 == 4) != (x9 == 4)) = true then (some false) else (correctorlaw15_ResolveOne.l0 k x5 (wrap64 (x6 + 1)))))))) else (none)) else (none))
end
def correctorlaw15_ResolveOne.f (k : Nat) (l0 : List Int) (a1 : ByteArray) : Option (Bool) := (correctorlaw15_known.f k).bind fun t357 => (if t357 = true then ((correctorlaw15_Word.f k l0).bind fun t358 => (correctorlaw15_ResolveOne.l0 k (([t358, a1] : List ByteArray)) 0)) else (some false))
theorem correctorlaw15_ResolveOne.mono_l : ∀ k, (∀ y0 y1, LeO (correctorlaw15_ResolveOne.l0 k y0 y1) (correctorlaw15_ResolveOne.l0 (k + 1) y0 y1)) ∧ (∀ y0 y1 y2 y3 y4, LeO (correctorlaw15_ResolveOne.j1 k y0 y1 y2 y3 y4) (correctorlaw15_ResolveOne.j1 (k + 1) y0 y1 y2 y3 y4))
  | 0 => ⟨fun _ _ r h => by simp [correctorlaw15_ResolveOne.l0] at h, fun _ _ _ _ _ r h => by simp [correctorlaw15_ResolveOne.j1] at h⟩
  | k + 1 => by
    obtain ⟨ih0, ih1⟩ := correctorlaw15_ResolveOne.mono_l k
    refine ⟨?_, ?_⟩
    · intro y0 y1
      unfold correctorlaw15_ResolveOne.l0
      repeat' first
      | (with_reducible exact ih0 _ _)
      | (with_reducible exact ih1 _ _ _ _ _)
      | (with_reducible exact correctorlaw15_Word.mono _ _)
      | (with_reducible exact correctorlaw15_known.mono _)
      | (with_reducible exact resolve_Int.mono _ _)
      | (with_reducible exact resolve_Kind.mono _ _)
      | (with_reducible exact resolve_Tagged.mono _ _ _ _)
      | (with_reducible exact LeO.refl _)
      | (with_reducible exact LeO.none _)
      | (with_reducible refine LeO.ite ?_ ?_)
      | (with_reducible refine LeO.bind ?_ (fun _ => ?_))
      | exact ih0 _ _
      | exact ih1 _ _ _ _ _
      | exact correctorlaw15_Word.mono _ _
      | exact correctorlaw15_known.mono _
      | exact resolve_Int.mono _ _
      | exact resolve_Kind.mono _ _
      | exact resolve_Tagged.mono _ _ _ _
      | exact LeO.none _
      | refine LeO.ite ?_ ?_
      | refine LeO.bind ?_ (fun _ => ?_)
    · intro y0 y1 y2 y3 y4
      unfold correctorlaw15_ResolveOne.j1
      repeat' first
      | (with_reducible exact ih0 _ _)
      | (with_reducible exact ih1 _ _ _ _ _)
      | (with_reducible exact correctorlaw15_Word.mono _ _)
      | (with_reducible exact correctorlaw15_known.mono _)
      | (with_reducible exact resolve_Int.mono _ _)
      | (with_reducible exact resolve_Kind.mono _ _)
      | (with_reducible exact resolve_Tagged.mono _ _ _ _)
      | (with_reducible exact LeO.refl _)
      | (with_reducible exact LeO.none _)
      | (with_reducible refine LeO.ite ?_ ?_)
      | (with_reducible refine LeO.bind ?_ (fun _ => ?_))
      | exact ih0 _ _
      | exact ih1 _ _ _ _ _
      | exact correctorlaw15_Word.mono _ _
      | exact correctorlaw15_known.mono _
      | exact resolve_Int.mono _ _
      | exact resolve_Kind.mono _ _
      | exact resolve_Tagged.mono _ _ _ _
      | exact LeO.none _
      | refine LeO.ite ?_ ?_
      | refine LeO.bind ?_ (fun _ => ?_)
theorem correctorlaw15_ResolveOne.mono : ∀ a0 a1 k, LeO (correctorlaw15_ResolveOne.f k a0 a1) (correctorlaw15_ResolveOne.f (k + 1) a0 a1) := by
  intro a0 a1 k
  obtain ⟨ih0, ih1⟩ := correctorlaw15_ResolveOne.mono_l k
  unfold correctorlaw15_ResolveOne.f
  repeat' first
      | (with_reducible exact ih0 _ _)
      | (with_reducible exact ih1 _ _ _ _ _)
      | (with_reducible exact correctorlaw15_Word.mono _ _)
      | (with_reducible exact correctorlaw15_known.mono _)
      | (with_reducible exact resolve_Int.mono _ _)
      | (with_reducible exact resolve_Kind.mono _ _)
      | (with_reducible exact resolve_Tagged.mono _ _ _ _)
      | (with_reducible exact LeO.refl _)
      | (with_reducible exact LeO.none _)
      | (with_reducible refine LeO.ite ?_ ?_)
      | (with_reducible refine LeO.bind ?_ (fun _ => ?_))
      | exact ih0 _ _
      | exact ih1 _ _ _ _ _
      | exact correctorlaw15_Word.mono _ _
      | exact correctorlaw15_known.mono _
      | exact resolve_Int.mono _ _
      | exact resolve_Kind.mono _ _
      | exact resolve_Tagged.mono _ _ _ _
      | exact LeO.none _
      | refine LeO.ite ?_ ?_
      | refine LeO.bind ?_ (fun _ => ?_)
set_option maxHeartbeats 8000000 in
set_option maxRecDepth 100000 in
theorem correctorlaw15_ResolveOne.calls (k : Nat) (A0 : Option Addr) (c0 : Nat) (l0 : List Int) (a1 : ByteArray) (r : Bool) (w : World) (hr0 : Kd.C (Kd.int .i64) w A0 l0.length l0) (hc0 : l0.length ≤ c0) (h : correctorlaw15_ResolveOne.f k l0 a1 = some r) :
    Calls Try.prog 11 #[.slice A0 l0.length c0, .string a1] w fun e w' => e = .returned (.bool r) ∧ Below w.heap.size w w' := by
  have HR0 := Aside0.mk hr0
  have HC0 := Aside0.mk hc0
  clear hr0 hc0
  have HB := Aside0.mk (Below.refl w.heap.size w)
  have H : ((correctorlaw15_known.f k).bind fun t357 => (if t357 = true then ((correctorlaw15_Word.f k l0).bind fun t358 => (correctorlaw15_ResolveOne.l0 k (([t358, a1] : List ByteArray)) 0)) else (some false))) = some r := h
  clear h
  replace H := Option.bind_eq_some_iff.mp H
  obtain ⟨t357, A30, H⟩ := H
  replace H : (if t357 = true then ((correctorlaw15_Word.f k l0).bind fun t358 => (correctorlaw15_ResolveOne.l0 k (([t358, a1] : List ByteArray)) 0)) else (some false)) = some r := H
  have A3 := Aside0.mk A30
  clear A30
  by_cases c4 : t357 = true
  · subst c4
    have H1 : ((correctorlaw15_Word.f k l0).bind fun t358 => (correctorlaw15_ResolveOne.l0 k (([t358, a1] : List ByteArray)) 0)) = some r := by rw [if_pos rfl] at H; exact H
    clear H
    have H := H1
    clear H1
    replace H := Option.bind_eq_some_iff.mp H
    obtain ⟨t358, A50, H⟩ := H
    replace H : (correctorlaw15_ResolveOne.l0 k (([t358, a1] : List ByteArray)) 0) = some r := H
    have A5 := Aside0.mk A50
    clear A50
    obtain ⟨y359, hy359⟩ : ∃ y_ : List ByteArray, y_ = (([t358, a1] : List ByteArray)) := ⟨_, rfl⟩
    replace H : (correctorlaw15_ResolveOne.l0 k y359 0) = some r := by first | (rw [hy359]; with_reducible exact H) | (have H2_ := (Option.bind_some _ _).symm.trans H; rw [hy359]; with_reducible exact H2_) | (have H2_ := (Option.bind_some _ _).symm.trans H; with_reducible exact H2_) | with_reducible exact H | (rw [hy359]; exact H) | exact H
    have Ny359 := Aside0.mk hy359
    clear hy359
    have H' := Aside0.mk H
    clear H
    go_enter Try.func11, Try.ntmps11
    go_wp2_with (first | ((with_reducible refine gate_callee (f := 23) rfl ?_); refine goesL_ (some 10) rfl rfl Try.func23 (by kernel_rfl) rfl #[] rfl (by (try simp only [List.map_toArray, List.map_cons, List.map_nil]); first | done | rfl | (simp only [List.length_drop, List.length_take]; rfl) | (simp only [ByteArray.size_extract, Nat.min_self]; done) | (simp only [ByteArray.size_extract, Nat.min_self]; rfl)) ?_; (with_reducible refine (correctorlaw15_known.calls k  true _ A3.out).mono ?_); rintro e w6 ⟨rfl, hb⟩; refine ⟨_, rfl, ?_⟩; have n0_ := Aside0.mk (below_step (by repeat (first | (with_reducible first | exact HB.out | apply below_alloc | apply pw_below_drewN | apply below_drew1) | exact HB.out)) hb); clear HB; have HB := n0_; clear n0_; (try clear hb); (try clear hb2); (try clear hk); (try clear hi)) | ((with_reducible refine gate_callee (f := 28) rfl ?_); refine goesL_ (some 13) rfl rfl Try.func28 (by kernel_rfl) rfl #[.slice A0 l0.length c0] rfl (by (try simp only [List.map_toArray, List.map_cons, List.map_nil]); first | done | rfl | (simp only [List.length_drop, List.length_take]; rfl) | (simp only [ByteArray.size_extract, Nat.min_self]; done) | (simp only [ByteArray.size_extract, Nat.min_self]; rfl)) ?_; (with_reducible refine (correctorlaw15_Word.calls k _ _ l0 t358 _ ?side1 ?side2 A5.out).mono ?_); (case side1 => repeat (first | exact (Kd.C_below HR0.out HB.out) | (with_reducible refine Kd.C_alloc ?_ _) | (with_reducible refine Kd.C_drewN ?_ _) | (with_reducible refine Kd.C_drew ?_))); (case side2 => exact HC0.out); rintro e w7 ⟨rfl, hb⟩; refine ⟨_, rfl, ?_⟩; have n0_ := Aside0.mk (below_step (by repeat (first | (with_reducible first | exact HB.out | apply below_alloc | apply pw_below_drewN | apply below_drew1) | exact HB.out)) hb); clear HB; have HB := n0_; clear n0_; (try clear hb); (try clear hb2); (try clear hk); (try clear hi)) | ((with_reducible refine gate_dst (N := 15) rfl ?_); refine Kd.R_lit Kd.string _ 9 ?hg (N := 15) ?hd (xs := ([t358, a1] : List ByteArray)) (inner := [.string t358, .string a1]) (ok := fun _ => True) (okp := fun _ => True) ?hr ?hp (fun _ hk => hk) trivial (Below.refl _ _) (Nat.le_refl _) (by simp) ?_; (case hd => rfl); (case hg => rfl); (case hr => first | (go_simp; done) | (go_simp; rfl)); (case hp => exact (Reps.one (show Kd.M Kd.string _ _ _ t358 [.string t358] from rfl) (Reps.one (show Kd.M Kd.string _ _ _ a1 [.string a1] from rfl) (Reps.none _ _)))); intro v360 w8 ho9 hb hg_ hnew_; clear hg_ hnew_; (first | rw [← Ny359.out] at ho9 | (simp only [Int.reduceToNat] at ho9; rw [← Ny359.out] at ho9)); have n0_ := Aside0.mk (Kd.R_lower ho9 (below_size (by repeat (first | (with_reducible first | exact HB.out | apply below_alloc | apply pw_below_drewN | apply below_drew1) | exact HB.out)))); have n1_ := Aside0.mk (below_step (by repeat (first | (with_reducible first | exact HB.out | apply below_alloc | apply pw_below_drewN | apply below_drew1) | exact HB.out)) hb); clear HB; have HO361 := n0_; have HB := n1_; clear n0_ n1_; clear hb ho9))
    go_loopg [6] k (fun kq v6 w' => ∃ (x6_1 : Int), v6 = .int .i64 x6_1 ∧ Aside0 (correctorlaw15_ResolveOne.l0 kq y359 x6_1 = some r) ∧ Aside0 (kq ≤ k) ∧ Aside0 (Kd.R Kd.string 9 w' w.heap.size (fun _ => True) v360 y359) ∧ Aside0 (Below w.heap.size w w'))
    case atStart => exact ⟨(0), (by first | rfl | (simp; done) | (simp [*]; done)), H', ⟨Nat.le_refl _⟩, ⟨by (with_reducible repeat (first | apply Kd.R_alloc | apply Kd.R_drewN | apply Kd.R_drew)); exact HO361.out⟩, ⟨by repeat (first | (with_reducible first | exact HB.out | apply below_alloc | apply pw_below_drewN | apply below_drew1) | exact HB.out)⟩⟩
    case round =>
      clear H'
      try clear c1
      try clear c2
      try clear p2
      try clear c4
      obtain ⟨x6_1, rfl, HA, HK1, HO_5, HB⟩ := hrel
      cases gk with
      | zero => exact absurd HA.out (by simp [correctorlaw15_ResolveOne.l0])
      | succ k1 =>
        have H := HA.out
        clear HA
        simp only [correctorlaw15_ResolveOne.l0] at H
        by_cases c10 : x6_1 < 2
        · rw [if_pos c10] at H
          have c10b0 : decide (x6_1 < 2) = true := decide_eq_true c10
          clear c10
          by_cases c11 : 0 ≤ x6_1
          · rw [if_pos c11] at H
            have c11b0 : decide (0 ≤ x6_1) = true := decide_eq_true c11
            clear c11
            by_cases c12 : x6_1 < (y359.length : Int)
            · rw [if_pos c12] at H
              have c12b0 : decide (x6_1 < (y359.length : Int)) = true := decide_eq_true c12
              clear c12
              replace H := Option.bind_eq_some_iff.mp H
              obtain ⟨⟨t363, t364⟩, A130, H⟩ := H
              replace H : ((resolve_Kind.f k1 (rdOf ByteArray.empty y359 x6_1)).bind fun t366 => (if (t364 != (t366 == 3)) = true then (correctorlaw15_ResolveOne.j1 k1 y359 x6_1 t364 t366 true) else (if t366 < 1 then (correctorlaw15_ResolveOne.j1 k1 y359 x6_1 t364 t366 true) else (if t366 > 5 then (correctorlaw15_ResolveOne.j1 k1 y359 x6_1 t364 t366 true) else ((resolve_Tagged.f k1 (⟨#[33, 33, 115, 116, 114]⟩ : ByteArray) (rdOf ByteArray.empty y359 x6_1) true).bind fun t368 => (if t368 = 5 then ((resolve_Tagged.f k1 (⟨#[]⟩ : ByteArray) (rdOf ByteArray.empty y359 x6_1) false).bind fun t370 => (if t370 = 5 then ((resolve_Tagged.f k1 (⟨#[]⟩ : ByteArray) (rdOf ByteArray.empty y359 x6_1) true).bind fun t372 => (correctorlaw15_ResolveOne.j1 k1 y359 x6_1 t364 t366 (t372 != t366))) else (correctorlaw15_ResolveOne.j1 k1 y359 x6_1 t364 t366 true))) else (correctorlaw15_ResolveOne.j1 k1 y359 x6_1 t364 t366 true))))))) = some r := H
              have A13 := Aside0.mk A130
              clear A130
              replace H := Option.bind_eq_some_iff.mp H
              obtain ⟨t366, A140, H⟩ := H
              replace H : (if (t364 != (t366 == 3)) = true then (correctorlaw15_ResolveOne.j1 k1 y359 x6_1 t364 t366 true) else (if t366 < 1 then (correctorlaw15_ResolveOne.j1 k1 y359 x6_1 t364 t366 true) else (if t366 > 5 then (correctorlaw15_ResolveOne.j1 k1 y359 x6_1 t364 t366 true) else ((resolve_Tagged.f k1 (⟨#[33, 33, 115, 116, 114]⟩ : ByteArray) (rdOf ByteArray.empty y359 x6_1) true).bind fun t368 => (if t368 = 5 then ((resolve_Tagged.f k1 (⟨#[]⟩ : ByteArray) (rdOf ByteArray.empty y359 x6_1) false).bind fun t370 => (if t370 = 5 then ((resolve_Tagged.f k1 (⟨#[]⟩ : ByteArray) (rdOf ByteArray.empty y359 x6_1) true).bind fun t372 => (correctorlaw15_ResolveOne.j1 k1 y359 x6_1 t364 t366 (t372 != t366))) else (correctorlaw15_ResolveOne.j1 k1 y359 x6_1 t364 t366 true))) else (correctorlaw15_ResolveOne.j1 k1 y359 x6_1 t364 t366 true)))))) = some r := H
              have A14 := Aside0.mk A140
              clear A140
              have HC15 := Aside0.mk H
              clear H
              obtain ⟨Ao16, co16, eo16⟩ := Kd.R_slice HO_5.out
              subst eo16
              have p362 : 0 ≤ (x6_1 : Int) := of_decide_eq_true (by first | (with_reducible assumption) | assumption)
              have q362 : x6_1 < (y359.length : Int) := of_decide_eq_true (by first | (with_reducible assumption) | assumption)
              obtain ⟨ad362, e362, hx362_0⟩ := Kd.at_string (Kd.R_reads' HO_5.out).2.2 x6_1 p362 q362
              cases e362
              replace p362 := eq_true p362
              replace q362 := eq_true q362
              go_upto_region 9 with (first | ((with_reducible refine gate_callee (f := 24) rfl ?_); refine goesL_ (some 25) rfl rfl Try.func24 (by kernel_rfl) rfl #[.string (rdOf ByteArray.empty y359 x6_1)] rfl (by (try simp only [List.map_toArray, List.map_cons, List.map_nil]); first | done | rfl | (simp only [List.length_drop, List.length_take]; rfl) | (simp only [ByteArray.size_extract, Nat.min_self]; done) | (simp only [ByteArray.size_extract, Nat.min_self]; rfl)) ?_; (with_reducible refine (resolve_Int.calls k1 (rdOf ByteArray.empty y359 x6_1) t363 t364 _ A13.out).mono ?_); rintro e w17 ⟨rfl, hb⟩; refine ⟨_, rfl, ?_⟩; have n0_ := Aside0.mk (Kd.R_below (by (with_reducible repeat (first | apply Kd.R_alloc | apply Kd.R_drewN | apply Kd.R_drew)); exact HO_5.out) hb); have n1_ := Aside0.mk (below_step (by repeat (first | (with_reducible first | exact HB.out | apply below_alloc | apply pw_below_drewN | apply below_drew1) | exact HB.out)) hb); clear HO_5; clear HB; have HO_5 := n0_; have HB := n1_; clear n0_ n1_; (try clear hb); (try clear hb2); (try clear hk); (try clear hi); have p365 : 0 ≤ (x6_1 : Int) := of_decide_eq_true (by first | (with_reducible assumption) | assumption); have q365 : x6_1 < (y359.length : Int) := of_decide_eq_true (by first | (with_reducible assumption) | assumption); obtain ⟨ad365, e365, hx365_0⟩ := Kd.at_string (Kd.R_reads' HO_5.out).2.2 x6_1 p365 q365; obtain rfl : ad362 = ad365 := (by injection e365); replace p365 := eq_true p365; replace q365 := eq_true q365) | ((with_reducible refine gate_callee (f := 26) rfl ?_); refine goesL_ (some 32) rfl rfl Try.func26 (by kernel_rfl) rfl #[.string (rdOf ByteArray.empty y359 x6_1)] rfl (by (try simp only [List.map_toArray, List.map_cons, List.map_nil]); first | done | rfl | (simp only [List.length_drop, List.length_take]; rfl) | (simp only [ByteArray.size_extract, Nat.min_self]; done) | (simp only [ByteArray.size_extract, Nat.min_self]; rfl)) ?_; (with_reducible refine (resolve_Kind.calls k1 (rdOf ByteArray.empty y359 x6_1) t366 _ A14.out).mono ?_); rintro e w18 ⟨rfl, hb⟩; refine ⟨_, rfl, ?_⟩; have n0_ := Aside0.mk (Kd.R_below (by (with_reducible repeat (first | apply Kd.R_alloc | apply Kd.R_drewN | apply Kd.R_drew)); exact HO_5.out) hb); have n1_ := Aside0.mk (below_step (by repeat (first | (with_reducible first | exact HB.out | apply below_alloc | apply pw_below_drewN | apply below_drew1) | exact HB.out)) hb); clear HO_5; clear HB; have HO_5 := n0_; have HB := n1_; clear n0_ n1_; (try clear hb); (try clear hb2); (try clear hk); (try clear hi)))
              (try simp only [Act.put, List.setIfInBounds_toArray, List.set_cons_zero, List.set_cons_succ])
              go_cut [69] (fun v69 wc => ∃ (kq : Nat) (x69_14 : Bool), v69 = .bool x69_14 ∧ Aside0 (correctorlaw15_ResolveOne.j1 kq y359 x6_1 t364 t366 x69_14 = some r) ∧ Aside0 (kq ≤ k1) ∧ Aside0 (Kd.R Kd.string 9 wc w.heap.size (fun _ => True) (.slice (some ad362) y359.length co16) y359) ∧ Aside0 (Below w.heap.size w wc))
              case first =>
                have H := HC15.out
                clear HC15
                by_cases c19 : (t364 != (t366 == 3)) = true
                · rw [if_pos c19] at H
                  have c19b0 : (t364 != (t366 == 3)) = true := c19
                  (try (have c19b1 : decide (t364 = (t366 == 3)) = false := by simpa using c19))
                  (try (have c19b2 : (t364 == (t366 == 3)) = false := by simpa using c19))
                  (try (have c19b3 : ¬ (t364 = (t366 == 3)) := by simpa using c19))
                  clear c19
                  (first | rw [c19b0] | (simp only [i64_w, i32_w]; rw [c19b0]) | skip)
                  have H' := Aside0.mk H
                  clear H
                  go_wp2
                  go_meet
                  case rel => exact ⟨_, (true), (by first | rfl | (simp; done) | (simp [*]; done)), H', ⟨by have := HK1.out; first | omega | exact Nat.le_refl _⟩, ⟨by (with_reducible repeat (first | apply Kd.R_alloc | apply Kd.R_drewN | apply Kd.R_drew)); exact HO_5.out⟩, ⟨by repeat (first | (with_reducible first | exact HB.out | apply below_alloc | apply pw_below_drewN | apply below_drew1) | exact HB.out)⟩⟩
                · rw [if_neg c19] at H
                  have c19b0 : (t364 != (t366 == 3)) = false := by simpa using c19
                  (try (have c19b1 : decide (t364 = (t366 == 3)) = true := by simpa using c19))
                  (try (have c19b2 : (t364 == (t366 == 3)) = true := by simpa using c19))
                  clear c19
                  (first | rw [c19b0] | (simp only [i64_w, i32_w]; rw [c19b0]) | skip)
                  by_cases c20 : t366 < 1
                  · rw [if_pos c20] at H
                    have c20b0 : decide (t366 < 1) = true := decide_eq_true c20
                    clear c20
                    have H' := Aside0.mk H
                    clear H
                    go_wp2
                    go_meet
                    case rel => exact ⟨_, (true), (by first | rfl | (simp; done) | (simp [*]; done)), H', ⟨by have := HK1.out; first | omega | exact Nat.le_refl _⟩, ⟨by (with_reducible repeat (first | apply Kd.R_alloc | apply Kd.R_drewN | apply Kd.R_drew)); exact HO_5.out⟩, ⟨by repeat (first | (with_reducible first | exact HB.out | apply below_alloc | apply pw_below_drewN | apply below_drew1) | exact HB.out)⟩⟩
                  · rw [if_neg c20] at H
                    have c20b0 : decide (t366 < 1) = false := decide_eq_false c20
                    clear c20
                    by_cases c21 : t366 > 5
                    · rw [if_pos c21] at H
                      have c21b0 : decide (5 < t366) = true := decide_eq_true c21
                      clear c21
                      have H' := Aside0.mk H
                      clear H
                      go_wp2
                      go_meet
                      case rel => exact ⟨_, (true), (by first | rfl | (simp; done) | (simp [*]; done)), H', ⟨by have := HK1.out; first | omega | exact Nat.le_refl _⟩, ⟨by (with_reducible repeat (first | apply Kd.R_alloc | apply Kd.R_drewN | apply Kd.R_drew)); exact HO_5.out⟩, ⟨by repeat (first | (with_reducible first | exact HB.out | apply below_alloc | apply pw_below_drewN | apply below_drew1) | exact HB.out)⟩⟩
                    · rw [if_neg c21] at H
                      have c21b0 : decide (5 < t366) = false := decide_eq_false c21
                      clear c21
                      replace H := Option.bind_eq_some_iff.mp H
                      obtain ⟨t368, A220, H⟩ := H
                      replace H : (if t368 = 5 then ((resolve_Tagged.f k1 (⟨#[]⟩ : ByteArray) (rdOf ByteArray.empty y359 x6_1) false).bind fun t370 => (if t370 = 5 then ((resolve_Tagged.f k1 (⟨#[]⟩ : ByteArray) (rdOf ByteArray.empty y359 x6_1) true).bind fun t372 => (correctorlaw15_ResolveOne.j1 k1 y359 x6_1 t364 t366 (t372 != t366))) else (correctorlaw15_ResolveOne.j1 k1 y359 x6_1 t364 t366 true))) else (correctorlaw15_ResolveOne.j1 k1 y359 x6_1 t364 t366 true)) = some r := H
                      have A22 := Aside0.mk A220
                      clear A220
                      by_cases c23 : t368 = 5
                      · rw [if_pos c23] at H
                        have c23b0 : (t368 == 5) = true := beq_iff_eq.mpr c23
                        have c23b1 : (t368 != 5) = false := bne_eq_false_iff_eq.mpr c23
                        clear c23
                        replace H := Option.bind_eq_some_iff.mp H
                        obtain ⟨t370, A240, H⟩ := H
                        replace H : (if t370 = 5 then ((resolve_Tagged.f k1 (⟨#[]⟩ : ByteArray) (rdOf ByteArray.empty y359 x6_1) true).bind fun t372 => (correctorlaw15_ResolveOne.j1 k1 y359 x6_1 t364 t366 (t372 != t366))) else (correctorlaw15_ResolveOne.j1 k1 y359 x6_1 t364 t366 true)) = some r := H
                        have A24 := Aside0.mk A240
                        clear A240
                        by_cases c25 : t370 = 5
                        · rw [if_pos c25] at H
                          have c25b0 : (t370 == 5) = true := beq_iff_eq.mpr c25
                          have c25b1 : (t370 != 5) = false := bne_eq_false_iff_eq.mpr c25
                          clear c25
                          replace H := Option.bind_eq_some_iff.mp H
                          obtain ⟨t372, A260, H⟩ := H
                          replace H : (correctorlaw15_ResolveOne.j1 k1 y359 x6_1 t364 t366 (t372 != t366)) = some r := H
                          have A26 := Aside0.mk A260
                          clear A260
                          have H' := Aside0.mk H
                          clear H
                          have p367 : 0 ≤ (x6_1 : Int) := of_decide_eq_true (by first | (with_reducible assumption) | assumption)
                          have q367 : x6_1 < (y359.length : Int) := of_decide_eq_true (by first | (with_reducible assumption) | assumption)
                          obtain ⟨ad367, e367, hx367_0⟩ := Kd.at_string (Kd.R_reads' HO_5.out).2.2 x6_1 p367 q367
                          obtain rfl : ad362 = ad367 := (by injection e367)
                          replace p367 := eq_true p367
                          replace q367 := eq_true q367
                          go_wp2_with (first | (go_at_call 31; (with_reducible refine (resolve_Tagged.calls k1 (⟨#[33, 33, 115, 116, 114]⟩ : ByteArray) (rdOf ByteArray.empty y359 x6_1) true t368 _ A22.out).mono ?_); rintro e w27 ⟨rfl, hb⟩; have n0_ := Aside0.mk (Kd.R_below (by (with_reducible repeat (first | apply Kd.R_alloc | apply Kd.R_drewN | apply Kd.R_drew)); exact HO_5.out) hb); have n1_ := Aside0.mk (below_step (by repeat (first | (with_reducible first | exact HB.out | apply below_alloc | apply pw_below_drewN | apply below_drew1) | exact HB.out)) hb); clear HO_5; clear HB; have HO_5 := n0_; have HB := n1_; clear n0_ n1_; (try clear hb); (try clear hb2); (try clear hk); (try clear hi); have p369 : 0 ≤ (x6_1 : Int) := of_decide_eq_true (by first | (with_reducible assumption) | assumption); have q369 : x6_1 < (y359.length : Int) := of_decide_eq_true (by first | (with_reducible assumption) | assumption); obtain ⟨ad369, e369, hx369_0⟩ := Kd.at_string (Kd.R_reads' HO_5.out).2.2 x6_1 p369 q369; obtain rfl : ad362 = ad369 := (by injection e369); replace p369 := eq_true p369; replace q369 := eq_true q369) | (go_at_call 31; (with_reducible refine (resolve_Tagged.calls k1 (⟨#[]⟩ : ByteArray) (rdOf ByteArray.empty y359 x6_1) false t370 _ A24.out).mono ?_); rintro e w28 ⟨rfl, hb⟩; have n0_ := Aside0.mk (Kd.R_below (by (with_reducible repeat (first | apply Kd.R_alloc | apply Kd.R_drewN | apply Kd.R_drew)); exact HO_5.out) hb); have n1_ := Aside0.mk (below_step (by repeat (first | (with_reducible first | exact HB.out | apply below_alloc | apply pw_below_drewN | apply below_drew1) | exact HB.out)) hb); clear HO_5; clear HB; have HO_5 := n0_; have HB := n1_; clear n0_ n1_; (try clear hb); (try clear hb2); (try clear hk); (try clear hi); have p371 : 0 ≤ (x6_1 : Int) := of_decide_eq_true (by first | (with_reducible assumption) | assumption); have q371 : x6_1 < (y359.length : Int) := of_decide_eq_true (by first | (with_reducible assumption) | assumption); obtain ⟨ad371, e371, hx371_0⟩ := Kd.at_string (Kd.R_reads' HO_5.out).2.2 x6_1 p371 q371; obtain rfl : ad362 = ad371 := (by injection e371); replace p371 := eq_true p371; replace q371 := eq_true q371) | (go_at_call 31; (with_reducible refine (resolve_Tagged.calls k1 (⟨#[]⟩ : ByteArray) (rdOf ByteArray.empty y359 x6_1) true t372 _ A26.out).mono ?_); rintro e w29 ⟨rfl, hb⟩; have n0_ := Aside0.mk (Kd.R_below (by (with_reducible repeat (first | apply Kd.R_alloc | apply Kd.R_drewN | apply Kd.R_drew)); exact HO_5.out) hb); have n1_ := Aside0.mk (below_step (by repeat (first | (with_reducible first | exact HB.out | apply below_alloc | apply pw_below_drewN | apply below_drew1) | exact HB.out)) hb); clear HO_5; clear HB; have HO_5 := n0_; have HB := n1_; clear n0_ n1_; (try clear hb); (try clear hb2); (try clear hk); (try clear hi)))
                          go_meet
                          case rel => exact ⟨_, ((t372 != t366)), (by first | rfl | (simp; done) | (simp [*]; done)), H', ⟨by have := HK1.out; first | omega | exact Nat.le_refl _⟩, ⟨by (with_reducible repeat (first | apply Kd.R_alloc | apply Kd.R_drewN | apply Kd.R_drew)); exact HO_5.out⟩, ⟨by repeat (first | (with_reducible first | exact HB.out | apply below_alloc | apply pw_below_drewN | apply below_drew1) | exact HB.out)⟩⟩
                        · rw [if_neg c25] at H
                          have c25b0 : (t370 == 5) = false := beq_eq_false_iff_ne.mpr c25
                          have c25b1 : (t370 != 5) = true := bne_iff_ne.mpr c25
                          have H' := Aside0.mk H
                          clear H
                          have p367 : 0 ≤ (x6_1 : Int) := of_decide_eq_true (by first | (with_reducible assumption) | assumption)
                          have q367 : x6_1 < (y359.length : Int) := of_decide_eq_true (by first | (with_reducible assumption) | assumption)
                          obtain ⟨ad367, e367, hx367_0⟩ := Kd.at_string (Kd.R_reads' HO_5.out).2.2 x6_1 p367 q367
                          obtain rfl : ad362 = ad367 := (by injection e367)
                          replace p367 := eq_true p367
                          replace q367 := eq_true q367
                          go_wp2_with (first | (go_at_call 31; (with_reducible refine (resolve_Tagged.calls k1 (⟨#[33, 33, 115, 116, 114]⟩ : ByteArray) (rdOf ByteArray.empty y359 x6_1) true t368 _ A22.out).mono ?_); rintro e w30 ⟨rfl, hb⟩; have n0_ := Aside0.mk (Kd.R_below (by (with_reducible repeat (first | apply Kd.R_alloc | apply Kd.R_drewN | apply Kd.R_drew)); exact HO_5.out) hb); have n1_ := Aside0.mk (below_step (by repeat (first | (with_reducible first | exact HB.out | apply below_alloc | apply pw_below_drewN | apply below_drew1) | exact HB.out)) hb); clear HO_5; clear HB; have HO_5 := n0_; have HB := n1_; clear n0_ n1_; (try clear hb); (try clear hb2); (try clear hk); (try clear hi); have p369 : 0 ≤ (x6_1 : Int) := of_decide_eq_true (by first | (with_reducible assumption) | assumption); have q369 : x6_1 < (y359.length : Int) := of_decide_eq_true (by first | (with_reducible assumption) | assumption); obtain ⟨ad369, e369, hx369_0⟩ := Kd.at_string (Kd.R_reads' HO_5.out).2.2 x6_1 p369 q369; obtain rfl : ad362 = ad369 := (by injection e369); replace p369 := eq_true p369; replace q369 := eq_true q369) | (go_at_call 31; (with_reducible refine (resolve_Tagged.calls k1 (⟨#[]⟩ : ByteArray) (rdOf ByteArray.empty y359 x6_1) false t370 _ A24.out).mono ?_); rintro e w31 ⟨rfl, hb⟩; have n0_ := Aside0.mk (Kd.R_below (by (with_reducible repeat (first | apply Kd.R_alloc | apply Kd.R_drewN | apply Kd.R_drew)); exact HO_5.out) hb); have n1_ := Aside0.mk (below_step (by repeat (first | (with_reducible first | exact HB.out | apply below_alloc | apply pw_below_drewN | apply below_drew1) | exact HB.out)) hb); clear HO_5; clear HB; have HO_5 := n0_; have HB := n1_; clear n0_ n1_; (try clear hb); (try clear hb2); (try clear hk); (try clear hi)))
                          go_meet
                          case rel => exact ⟨_, (true), (by first | rfl | (simp; done) | (simp [*]; done)), H', ⟨by have := HK1.out; first | omega | exact Nat.le_refl _⟩, ⟨by (with_reducible repeat (first | apply Kd.R_alloc | apply Kd.R_drewN | apply Kd.R_drew)); exact HO_5.out⟩, ⟨by repeat (first | (with_reducible first | exact HB.out | apply below_alloc | apply pw_below_drewN | apply below_drew1) | exact HB.out)⟩⟩
                      · rw [if_neg c23] at H
                        have c23b0 : (t368 == 5) = false := beq_eq_false_iff_ne.mpr c23
                        have c23b1 : (t368 != 5) = true := bne_iff_ne.mpr c23
                        have H' := Aside0.mk H
                        clear H
                        have p367 : 0 ≤ (x6_1 : Int) := of_decide_eq_true (by first | (with_reducible assumption) | assumption)
                        have q367 : x6_1 < (y359.length : Int) := of_decide_eq_true (by first | (with_reducible assumption) | assumption)
                        obtain ⟨ad367, e367, hx367_0⟩ := Kd.at_string (Kd.R_reads' HO_5.out).2.2 x6_1 p367 q367
                        obtain rfl : ad362 = ad367 := (by injection e367)
                        replace p367 := eq_true p367
                        replace q367 := eq_true q367
                        go_wp2_with (first | (go_at_call 31; (with_reducible refine (resolve_Tagged.calls k1 (⟨#[33, 33, 115, 116, 114]⟩ : ByteArray) (rdOf ByteArray.empty y359 x6_1) true t368 _ A22.out).mono ?_); rintro e w32 ⟨rfl, hb⟩; have n0_ := Aside0.mk (Kd.R_below (by (with_reducible repeat (first | apply Kd.R_alloc | apply Kd.R_drewN | apply Kd.R_drew)); exact HO_5.out) hb); have n1_ := Aside0.mk (below_step (by repeat (first | (with_reducible first | exact HB.out | apply below_alloc | apply pw_below_drewN | apply below_drew1) | exact HB.out)) hb); clear HO_5; clear HB; have HO_5 := n0_; have HB := n1_; clear n0_ n1_; (try clear hb); (try clear hb2); (try clear hk); (try clear hi)))
                        go_meet
                        case rel => exact ⟨_, (true), (by first | rfl | (simp; done) | (simp [*]; done)), H', ⟨by have := HK1.out; first | omega | exact Nat.le_refl _⟩, ⟨by (with_reducible repeat (first | apply Kd.R_alloc | apply Kd.R_drewN | apply Kd.R_drew)); exact HO_5.out⟩, ⟨by repeat (first | (with_reducible first | exact HB.out | apply below_alloc | apply pw_below_drewN | apply below_drew1) | exact HB.out)⟩⟩
              case rest =>
                clear HC15
                try clear c1
                try clear c2
                try clear p2
                try clear p3
                try clear q3
                try clear hx3
                try clear c4
                try clear c10
                try clear c10b0
                try clear c11
                try clear c11b0
                try clear c12
                try clear c12b0
                try clear c19
                try clear c19b0
                try clear c19b1
                try clear c19b2
                try clear c20
                try clear c20b0
                try clear c21
                try clear c21b0
                try clear c23
                try clear c23b0
                try clear c23b1
                try clear c24
                try clear c25
                try clear c25b0
                try clear c25b1
                try clear c26
                try clear c28
                try clear hx362_0
                try clear hx365_0
                try clear hx367_0
                try clear hx369_0
                try clear hx371_0
                try clear p2
                try clear p362
                try clear p365
                try clear p367
                try clear p369
                try clear p371
                try clear q362
                try clear q365
                try clear q367
                try clear q369
                try clear q371
                obtain ⟨kq, x69_14, rfl, HA, HJ14, HO_5, HB⟩ := hcut
                cases kq with
                | zero => exact absurd HA.out (by simp [correctorlaw15_ResolveOne.j1])
                | succ kj14 =>
                  have H := HA.out
                  clear HA
                  simp only [correctorlaw15_ResolveOne.j1] at H
                  by_cases c33 : x69_14 = true
                  · subst c33
                    have H1 : (some false) = some r := by rw [if_pos rfl] at H; exact H
                    clear H
                    have H := H1
                    clear H1
                    obtain rfl := Option.some.inj H
                    go_wp2
                    go_ret
                    exact ⟨by first | rfl | (simp [errW_none, errW_some] <;> rfl) | (simp [*, errW_none, errW_some] <;> rfl), by repeat (first | (with_reducible first | exact HB.out | apply below_alloc | apply pw_below_drewN | apply below_drew1) | exact HB.out)⟩
                  · replace c33 := Bool.eq_false_iff.mpr c33
                    subst c33
                    have H1 : (if 0 ≤ x6_1 then (if x6_1 < (y359.length : Int) then ((resolve_Tagged.f kj14 (⟨#[33, 33, 105, 110, 116]⟩ : ByteArray) (rdOf ByteArray.empty y359 x6_1) false).bind fun t374 => (if ((t374 == 3) != t364) = true then (some false) else ((resolve_Tagged.f kj14 (⟨#[33, 33, 102, 108, 111, 97, 116]⟩ : ByteArray) (rdOf ByteArray.empty y359 x6_1) false).bind fun t376 => (if t364 = true then (if ((t376 == 4) != true) = true then (some false) else (correctorlaw15_ResolveOne.l0 kj14 y359 (wrap64 (x6_1 + 1)))) else (if ((t376 == 4) != (t366 == 4)) = true then (some false) else (correctorlaw15_ResolveOne.l0 kj14 y359 (wrap64 (x6_1 + 1)))))))) else (none)) else (none)) = some r := by rw [if_neg (show ¬ (false = true) by decide)] at H; exact H
                    clear H
                    have H := H1
                    clear H1
                    by_cases c34 : 0 ≤ x6_1
                    · rw [if_pos c34] at H
                      have c34b0 : decide (0 ≤ x6_1) = true := decide_eq_true c34
                      clear c34
                      by_cases c35 : x6_1 < (y359.length : Int)
                      · rw [if_pos c35] at H
                        have c35b0 : decide (x6_1 < (y359.length : Int)) = true := decide_eq_true c35
                        clear c35
                        replace H := Option.bind_eq_some_iff.mp H
                        obtain ⟨t374, A360, H⟩ := H
                        replace H : (if ((t374 == 3) != t364) = true then (some false) else ((resolve_Tagged.f kj14 (⟨#[33, 33, 102, 108, 111, 97, 116]⟩ : ByteArray) (rdOf ByteArray.empty y359 x6_1) false).bind fun t376 => (if t364 = true then (if ((t376 == 4) != true) = true then (some false) else (correctorlaw15_ResolveOne.l0 kj14 y359 (wrap64 (x6_1 + 1)))) else (if ((t376 == 4) != (t366 == 4)) = true then (some false) else (correctorlaw15_ResolveOne.l0 kj14 y359 (wrap64 (x6_1 + 1))))))) = some r := H
                        have A36 := Aside0.mk A360
                        clear A360
                        by_cases c37 : ((t374 == 3) != t364) = true
                        · rw [if_pos c37] at H
                          have c37b0 : ((t374 == 3) != t364) = true := c37
                          (try (have c37b1 : decide ((t374 == 3) = t364) = false := by simpa using c37))
                          (try (have c37b2 : ((t374 == 3) == t364) = false := by simpa using c37))
                          (try (have c37b3 : ¬ ((t374 == 3) = t364) := by simpa using c37))
                          clear c37
                          obtain rfl := Option.some.inj H
                          have p373 : 0 ≤ (x6_1 : Int) := of_decide_eq_true (by first | (with_reducible assumption) | assumption)
                          have q373 : x6_1 < (y359.length : Int) := of_decide_eq_true (by first | (with_reducible assumption) | assumption)
                          obtain ⟨ad373, e373, hx373_0⟩ := Kd.at_string (Kd.R_reads' HO_5.out).2.2 x6_1 p373 q373
                          obtain rfl : ad362 = ad373 := (by injection e373)
                          replace p373 := eq_true p373
                          replace q373 := eq_true q373
                          go_wp2_with (first | ((with_reducible refine gate_callee (f := 31) rfl ?_); refine goesL_ (some 74) rfl rfl Try.func31 (by kernel_rfl) rfl #[.string (⟨#[33, 33, 105, 110, 116]⟩ : ByteArray), .string (rdOf ByteArray.empty y359 x6_1), .bool false] rfl (by (try simp only [List.map_toArray, List.map_cons, List.map_nil]); first | done | rfl | (simp only [List.length_drop, List.length_take]; rfl) | (simp only [ByteArray.size_extract, Nat.min_self]; done) | (simp only [ByteArray.size_extract, Nat.min_self]; rfl)) ?_; (with_reducible refine (resolve_Tagged.calls kj14 (⟨#[33, 33, 105, 110, 116]⟩ : ByteArray) (rdOf ByteArray.empty y359 x6_1) false t374 _ A36.out).mono ?_); rintro e w38 ⟨rfl, hb⟩; refine ⟨_, rfl, ?_⟩; have n0_ := Aside0.mk (Kd.R_below (by (with_reducible repeat (first | apply Kd.R_alloc | apply Kd.R_drewN | apply Kd.R_drew)); exact HO_5.out) hb); have n1_ := Aside0.mk (below_step (by repeat (first | (with_reducible first | exact HB.out | apply below_alloc | apply pw_below_drewN | apply below_drew1) | exact HB.out)) hb); clear HO_5; clear HB; have HO_5 := n0_; have HB := n1_; clear n0_ n1_; (try clear hb); (try clear hb2); (try clear hk); (try clear hi)))
                          go_ret
                          exact ⟨by first | rfl | (simp [errW_none, errW_some] <;> rfl) | (simp [*, errW_none, errW_some] <;> rfl), by repeat (first | (with_reducible first | exact HB.out | apply below_alloc | apply pw_below_drewN | apply below_drew1) | exact HB.out)⟩
                        · rw [if_neg c37] at H
                          have c37b0 : ((t374 == 3) != t364) = false := by simpa using c37
                          (try (have c37b1 : decide ((t374 == 3) = t364) = true := by simpa using c37))
                          (try (have c37b2 : ((t374 == 3) == t364) = true := by simpa using c37))
                          clear c37
                          replace H := Option.bind_eq_some_iff.mp H
                          obtain ⟨t376, A390, H⟩ := H
                          replace H : (if t364 = true then (if ((t376 == 4) != true) = true then (some false) else (correctorlaw15_ResolveOne.l0 kj14 y359 (wrap64 (x6_1 + 1)))) else (if ((t376 == 4) != (t366 == 4)) = true then (some false) else (correctorlaw15_ResolveOne.l0 kj14 y359 (wrap64 (x6_1 + 1))))) = some r := H
                          have A39 := Aside0.mk A390
                          clear A390
                          by_cases c40 : t364 = true
                          · subst c40
                            have H1 : (if ((t376 == 4) != true) = true then (some false) else (correctorlaw15_ResolveOne.l0 kj14 y359 (wrap64 (x6_1 + 1)))) = some r := by rw [if_pos rfl] at H; exact H
                            clear H
                            have H := H1
                            clear H1
                            by_cases c41 : ((t376 == 4) != true) = true
                            · rw [if_pos c41] at H
                              have c41b0 : ((t376 == 4) != true) = true := c41
                              (try (have c41b1 : decide ((t376 == 4) = true) = false := by simpa using c41))
                              (try (have c41b2 : ((t376 == 4) == true) = false := by simpa using c41))
                              (try (have c41b3 : ¬ ((t376 == 4) = true) := by simpa using c41))
                              clear c41
                              obtain rfl := Option.some.inj H
                              have p373 : 0 ≤ (x6_1 : Int) := of_decide_eq_true (by first | (with_reducible assumption) | assumption)
                              have q373 : x6_1 < (y359.length : Int) := of_decide_eq_true (by first | (with_reducible assumption) | assumption)
                              obtain ⟨ad373, e373, hx373_0⟩ := Kd.at_string (Kd.R_reads' HO_5.out).2.2 x6_1 p373 q373
                              obtain rfl : ad362 = ad373 := (by injection e373)
                              replace p373 := eq_true p373
                              replace q373 := eq_true q373
                              go_wp2_with (first | ((with_reducible refine gate_callee (f := 31) rfl ?_); refine goesL_ (some 74) rfl rfl Try.func31 (by kernel_rfl) rfl #[.string (⟨#[33, 33, 105, 110, 116]⟩ : ByteArray), .string (rdOf ByteArray.empty y359 x6_1), .bool false] rfl (by (try simp only [List.map_toArray, List.map_cons, List.map_nil]); first | done | rfl | (simp only [List.length_drop, List.length_take]; rfl) | (simp only [ByteArray.size_extract, Nat.min_self]; done) | (simp only [ByteArray.size_extract, Nat.min_self]; rfl)) ?_; (with_reducible refine (resolve_Tagged.calls kj14 (⟨#[33, 33, 105, 110, 116]⟩ : ByteArray) (rdOf ByteArray.empty y359 x6_1) false t374 _ A36.out).mono ?_); rintro e w42 ⟨rfl, hb⟩; refine ⟨_, rfl, ?_⟩; have n0_ := Aside0.mk (Kd.R_below (by (with_reducible repeat (first | apply Kd.R_alloc | apply Kd.R_drewN | apply Kd.R_drew)); exact HO_5.out) hb); have n1_ := Aside0.mk (below_step (by repeat (first | (with_reducible first | exact HB.out | apply below_alloc | apply pw_below_drewN | apply below_drew1) | exact HB.out)) hb); clear HO_5; clear HB; have HO_5 := n0_; have HB := n1_; clear n0_ n1_; (try clear hb); (try clear hb2); (try clear hk); (try clear hi); have p375 : 0 ≤ (x6_1 : Int) := of_decide_eq_true (by first | (with_reducible assumption) | assumption); have q375 : x6_1 < (y359.length : Int) := of_decide_eq_true (by first | (with_reducible assumption) | assumption); obtain ⟨ad375, e375, hx375_0⟩ := Kd.at_string (Kd.R_reads' HO_5.out).2.2 x6_1 p375 q375; obtain rfl : ad362 = ad375 := (by injection e375); replace p375 := eq_true p375; replace q375 := eq_true q375) | (go_at_call 31; (with_reducible refine (resolve_Tagged.calls kj14 (⟨#[33, 33, 102, 108, 111, 97, 116]⟩ : ByteArray) (rdOf ByteArray.empty y359 x6_1) false t376 _ A39.out).mono ?_); rintro e w43 ⟨rfl, hb⟩; have n0_ := Aside0.mk (Kd.R_below (by (with_reducible repeat (first | apply Kd.R_alloc | apply Kd.R_drewN | apply Kd.R_drew)); exact HO_5.out) hb); have n1_ := Aside0.mk (below_step (by repeat (first | (with_reducible first | exact HB.out | apply below_alloc | apply pw_below_drewN | apply below_drew1) | exact HB.out)) hb); clear HO_5; clear HB; have HO_5 := n0_; have HB := n1_; clear n0_ n1_; (try clear hb); (try clear hb2); (try clear hk); (try clear hi)))
                              go_ret
                              exact ⟨by first | rfl | (simp [errW_none, errW_some] <;> rfl) | (simp [*, errW_none, errW_some] <;> rfl), by repeat (first | (with_reducible first | exact HB.out | apply below_alloc | apply pw_below_drewN | apply below_drew1) | exact HB.out)⟩
                            · rw [if_neg c41] at H
                              have c41b0 : ((t376 == 4) != true) = false := by simpa using c41
                              (try (have c41b1 : decide ((t376 == 4) = true) = true := by simpa using c41))
                              (try (have c41b2 : ((t376 == 4) == true) = true := by simpa using c41))
                              clear c41
                              have H' := Aside0.mk H
                              clear H
                              have p373 : 0 ≤ (x6_1 : Int) := of_decide_eq_true (by first | (with_reducible assumption) | assumption)
                              have q373 : x6_1 < (y359.length : Int) := of_decide_eq_true (by first | (with_reducible assumption) | assumption)
                              obtain ⟨ad373, e373, hx373_0⟩ := Kd.at_string (Kd.R_reads' HO_5.out).2.2 x6_1 p373 q373
                              obtain rfl : ad362 = ad373 := (by injection e373)
                              replace p373 := eq_true p373
                              replace q373 := eq_true q373
                              go_wp2_with (first | ((with_reducible refine gate_callee (f := 31) rfl ?_); refine goesL_ (some 74) rfl rfl Try.func31 (by kernel_rfl) rfl #[.string (⟨#[33, 33, 105, 110, 116]⟩ : ByteArray), .string (rdOf ByteArray.empty y359 x6_1), .bool false] rfl (by (try simp only [List.map_toArray, List.map_cons, List.map_nil]); first | done | rfl | (simp only [List.length_drop, List.length_take]; rfl) | (simp only [ByteArray.size_extract, Nat.min_self]; done) | (simp only [ByteArray.size_extract, Nat.min_self]; rfl)) ?_; (with_reducible refine (resolve_Tagged.calls kj14 (⟨#[33, 33, 105, 110, 116]⟩ : ByteArray) (rdOf ByteArray.empty y359 x6_1) false t374 _ A36.out).mono ?_); rintro e w44 ⟨rfl, hb⟩; refine ⟨_, rfl, ?_⟩; have n0_ := Aside0.mk (Kd.R_below (by (with_reducible repeat (first | apply Kd.R_alloc | apply Kd.R_drewN | apply Kd.R_drew)); exact HO_5.out) hb); have n1_ := Aside0.mk (below_step (by repeat (first | (with_reducible first | exact HB.out | apply below_alloc | apply pw_below_drewN | apply below_drew1) | exact HB.out)) hb); clear HO_5; clear HB; have HO_5 := n0_; have HB := n1_; clear n0_ n1_; (try clear hb); (try clear hb2); (try clear hk); (try clear hi); have p375 : 0 ≤ (x6_1 : Int) := of_decide_eq_true (by first | (with_reducible assumption) | assumption); have q375 : x6_1 < (y359.length : Int) := of_decide_eq_true (by first | (with_reducible assumption) | assumption); obtain ⟨ad375, e375, hx375_0⟩ := Kd.at_string (Kd.R_reads' HO_5.out).2.2 x6_1 p375 q375; obtain rfl : ad362 = ad375 := (by injection e375); replace p375 := eq_true p375; replace q375 := eq_true q375) | (go_at_call 31; (with_reducible refine (resolve_Tagged.calls kj14 (⟨#[33, 33, 102, 108, 111, 97, 116]⟩ : ByteArray) (rdOf ByteArray.empty y359 x6_1) false t376 _ A39.out).mono ?_); rintro e w45 ⟨rfl, hb⟩; have n0_ := Aside0.mk (Kd.R_below (by (with_reducible repeat (first | apply Kd.R_alloc | apply Kd.R_drewN | apply Kd.R_drew)); exact HO_5.out) hb); have n1_ := Aside0.mk (below_step (by repeat (first | (with_reducible first | exact HB.out | apply below_alloc | apply pw_below_drewN | apply below_drew1) | exact HB.out)) hb); clear HO_5; clear HB; have HO_5 := n0_; have HB := n1_; clear n0_ n1_; (try clear hb); (try clear hb2); (try clear hk); (try clear hi)))
                              go_roundg kj14
                              case measure => have := HK1.out; have := HJ14.out; omega
                              case rel => exact ⟨(wrap64 (x6_1 + 1)), (by first | rfl | (simp; done) | (simp [*]; done)), H', ⟨by have := HK1.out; have := HJ14.out; omega⟩, ⟨by (with_reducible repeat (first | apply Kd.R_alloc | apply Kd.R_drewN | apply Kd.R_drew)); exact HO_5.out⟩, ⟨by repeat (first | (with_reducible first | exact HB.out | apply below_alloc | apply pw_below_drewN | apply below_drew1) | exact HB.out)⟩⟩
                          · replace c40 := Bool.eq_false_iff.mpr c40
                            subst c40
                            have H1 : (if ((t376 == 4) != (t366 == 4)) = true then (some false) else (correctorlaw15_ResolveOne.l0 kj14 y359 (wrap64 (x6_1 + 1)))) = some r := by rw [if_neg (show ¬ (false = true) by decide)] at H; exact H
                            clear H
                            have H := H1
                            clear H1
                            by_cases c46 : ((t376 == 4) != (t366 == 4)) = true
                            · rw [if_pos c46] at H
                              have c46b0 : ((t376 == 4) != (t366 == 4)) = true := c46
                              (try (have c46b1 : decide ((t376 == 4) = (t366 == 4)) = false := by simpa using c46))
                              (try (have c46b2 : ((t376 == 4) == (t366 == 4)) = false := by simpa using c46))
                              (try (have c46b3 : ¬ ((t376 == 4) = (t366 == 4)) := by simpa using c46))
                              clear c46
                              obtain rfl := Option.some.inj H
                              have p373 : 0 ≤ (x6_1 : Int) := of_decide_eq_true (by first | (with_reducible assumption) | assumption)
                              have q373 : x6_1 < (y359.length : Int) := of_decide_eq_true (by first | (with_reducible assumption) | assumption)
                              obtain ⟨ad373, e373, hx373_0⟩ := Kd.at_string (Kd.R_reads' HO_5.out).2.2 x6_1 p373 q373
                              obtain rfl : ad362 = ad373 := (by injection e373)
                              replace p373 := eq_true p373
                              replace q373 := eq_true q373
                              go_wp2_with (first | ((with_reducible refine gate_callee (f := 31) rfl ?_); refine goesL_ (some 74) rfl rfl Try.func31 (by kernel_rfl) rfl #[.string (⟨#[33, 33, 105, 110, 116]⟩ : ByteArray), .string (rdOf ByteArray.empty y359 x6_1), .bool false] rfl (by (try simp only [List.map_toArray, List.map_cons, List.map_nil]); first | done | rfl | (simp only [List.length_drop, List.length_take]; rfl) | (simp only [ByteArray.size_extract, Nat.min_self]; done) | (simp only [ByteArray.size_extract, Nat.min_self]; rfl)) ?_; (with_reducible refine (resolve_Tagged.calls kj14 (⟨#[33, 33, 105, 110, 116]⟩ : ByteArray) (rdOf ByteArray.empty y359 x6_1) false t374 _ A36.out).mono ?_); rintro e w47 ⟨rfl, hb⟩; refine ⟨_, rfl, ?_⟩; have n0_ := Aside0.mk (Kd.R_below (by (with_reducible repeat (first | apply Kd.R_alloc | apply Kd.R_drewN | apply Kd.R_drew)); exact HO_5.out) hb); have n1_ := Aside0.mk (below_step (by repeat (first | (with_reducible first | exact HB.out | apply below_alloc | apply pw_below_drewN | apply below_drew1) | exact HB.out)) hb); clear HO_5; clear HB; have HO_5 := n0_; have HB := n1_; clear n0_ n1_; (try clear hb); (try clear hb2); (try clear hk); (try clear hi); have p375 : 0 ≤ (x6_1 : Int) := of_decide_eq_true (by first | (with_reducible assumption) | assumption); have q375 : x6_1 < (y359.length : Int) := of_decide_eq_true (by first | (with_reducible assumption) | assumption); obtain ⟨ad375, e375, hx375_0⟩ := Kd.at_string (Kd.R_reads' HO_5.out).2.2 x6_1 p375 q375; obtain rfl : ad362 = ad375 := (by injection e375); replace p375 := eq_true p375; replace q375 := eq_true q375) | (go_at_call 31; (with_reducible refine (resolve_Tagged.calls kj14 (⟨#[33, 33, 102, 108, 111, 97, 116]⟩ : ByteArray) (rdOf ByteArray.empty y359 x6_1) false t376 _ A39.out).mono ?_); rintro e w48 ⟨rfl, hb⟩; have n0_ := Aside0.mk (Kd.R_below (by (with_reducible repeat (first | apply Kd.R_alloc | apply Kd.R_drewN | apply Kd.R_drew)); exact HO_5.out) hb); have n1_ := Aside0.mk (below_step (by repeat (first | (with_reducible first | exact HB.out | apply below_alloc | apply pw_below_drewN | apply below_drew1) | exact HB.out)) hb); clear HO_5; clear HB; have HO_5 := n0_; have HB := n1_; clear n0_ n1_; (try clear hb); (try clear hb2); (try clear hk); (try clear hi)))
                              go_ret
                              exact ⟨by first | rfl | (simp [errW_none, errW_some] <;> rfl) | (simp [*, errW_none, errW_some] <;> rfl), by repeat (first | (with_reducible first | exact HB.out | apply below_alloc | apply pw_below_drewN | apply below_drew1) | exact HB.out)⟩
                            · rw [if_neg c46] at H
                              have c46b0 : ((t376 == 4) != (t366 == 4)) = false := by simpa using c46
                              (try (have c46b1 : decide ((t376 == 4) = (t366 == 4)) = true := by simpa using c46))
                              (try (have c46b2 : ((t376 == 4) == (t366 == 4)) = true := by simpa using c46))
                              clear c46
                              have H' := Aside0.mk H
                              clear H
                              have p373 : 0 ≤ (x6_1 : Int) := of_decide_eq_true (by first | (with_reducible assumption) | assumption)
                              have q373 : x6_1 < (y359.length : Int) := of_decide_eq_true (by first | (with_reducible assumption) | assumption)
                              obtain ⟨ad373, e373, hx373_0⟩ := Kd.at_string (Kd.R_reads' HO_5.out).2.2 x6_1 p373 q373
                              obtain rfl : ad362 = ad373 := (by injection e373)
                              replace p373 := eq_true p373
                              replace q373 := eq_true q373
                              go_wp2_with (first | ((with_reducible refine gate_callee (f := 31) rfl ?_); refine goesL_ (some 74) rfl rfl Try.func31 (by kernel_rfl) rfl #[.string (⟨#[33, 33, 105, 110, 116]⟩ : ByteArray), .string (rdOf ByteArray.empty y359 x6_1), .bool false] rfl (by (try simp only [List.map_toArray, List.map_cons, List.map_nil]); first | done | rfl | (simp only [List.length_drop, List.length_take]; rfl) | (simp only [ByteArray.size_extract, Nat.min_self]; done) | (simp only [ByteArray.size_extract, Nat.min_self]; rfl)) ?_; (with_reducible refine (resolve_Tagged.calls kj14 (⟨#[33, 33, 105, 110, 116]⟩ : ByteArray) (rdOf ByteArray.empty y359 x6_1) false t374 _ A36.out).mono ?_); rintro e w49 ⟨rfl, hb⟩; refine ⟨_, rfl, ?_⟩; have n0_ := Aside0.mk (Kd.R_below (by (with_reducible repeat (first | apply Kd.R_alloc | apply Kd.R_drewN | apply Kd.R_drew)); exact HO_5.out) hb); have n1_ := Aside0.mk (below_step (by repeat (first | (with_reducible first | exact HB.out | apply below_alloc | apply pw_below_drewN | apply below_drew1) | exact HB.out)) hb); clear HO_5; clear HB; have HO_5 := n0_; have HB := n1_; clear n0_ n1_; (try clear hb); (try clear hb2); (try clear hk); (try clear hi); have p375 : 0 ≤ (x6_1 : Int) := of_decide_eq_true (by first | (with_reducible assumption) | assumption); have q375 : x6_1 < (y359.length : Int) := of_decide_eq_true (by first | (with_reducible assumption) | assumption); obtain ⟨ad375, e375, hx375_0⟩ := Kd.at_string (Kd.R_reads' HO_5.out).2.2 x6_1 p375 q375; obtain rfl : ad362 = ad375 := (by injection e375); replace p375 := eq_true p375; replace q375 := eq_true q375) | (go_at_call 31; (with_reducible refine (resolve_Tagged.calls kj14 (⟨#[33, 33, 102, 108, 111, 97, 116]⟩ : ByteArray) (rdOf ByteArray.empty y359 x6_1) false t376 _ A39.out).mono ?_); rintro e w50 ⟨rfl, hb⟩; have n0_ := Aside0.mk (Kd.R_below (by (with_reducible repeat (first | apply Kd.R_alloc | apply Kd.R_drewN | apply Kd.R_drew)); exact HO_5.out) hb); have n1_ := Aside0.mk (below_step (by repeat (first | (with_reducible first | exact HB.out | apply below_alloc | apply pw_below_drewN | apply below_drew1) | exact HB.out)) hb); clear HO_5; clear HB; have HO_5 := n0_; have HB := n1_; clear n0_ n1_; (try clear hb); (try clear hb2); (try clear hk); (try clear hi)))
                              go_roundg kj14
                              case measure => have := HK1.out; have := HJ14.out; omega
                              case rel => exact ⟨(wrap64 (x6_1 + 1)), (by first | rfl | (simp; done) | (simp [*]; done)), H', ⟨by have := HK1.out; have := HJ14.out; omega⟩, ⟨by (with_reducible repeat (first | apply Kd.R_alloc | apply Kd.R_drewN | apply Kd.R_drew)); exact HO_5.out⟩, ⟨by repeat (first | (with_reducible first | exact HB.out | apply below_alloc | apply pw_below_drewN | apply below_drew1) | exact HB.out)⟩⟩
                      · rw [if_neg c35] at H
                        exact absurd H (by simp)
                    · rw [if_neg c34] at H
                      exact absurd H (by simp)
            · rw [if_neg c12] at H
              exact absurd H (by simp)
          · rw [if_neg c11] at H
            exact absurd H (by simp)
        · rw [if_neg c10] at H
          have c10b0 : decide (x6_1 < 2) = false := decide_eq_false c10
          clear c10
          obtain rfl := Option.some.inj H
          go_wp2
          go_ret
          exact ⟨by first | rfl | (simp [errW_none, errW_some] <;> rfl) | (simp [*, errW_none, errW_some] <;> rfl), by repeat (first | (with_reducible first | exact HB.out | apply below_alloc | apply pw_below_drewN | apply below_drew1) | exact HB.out)⟩
  · replace c4 := Bool.eq_false_iff.mpr c4
    subst c4
    have H1 : (some false) = some r := by rw [if_neg (show ¬ (false = true) by decide)] at H; exact H
    clear H
    have H := H1
    clear H1
    obtain rfl := Option.some.inj H
    go_enter Try.func11, Try.ntmps11
    go_wp2_with (first | ((with_reducible refine gate_callee (f := 23) rfl ?_); refine goesL_ (some 10) rfl rfl Try.func23 (by kernel_rfl) rfl #[] rfl (by (try simp only [List.map_toArray, List.map_cons, List.map_nil]); first | done | rfl | (simp only [List.length_drop, List.length_take]; rfl) | (simp only [ByteArray.size_extract, Nat.min_self]; done) | (simp only [ByteArray.size_extract, Nat.min_self]; rfl)) ?_; (with_reducible refine (correctorlaw15_known.calls k  false _ A3.out).mono ?_); rintro e w51 ⟨rfl, hb⟩; refine ⟨_, rfl, ?_⟩; have n0_ := Aside0.mk (below_step (by repeat (first | (with_reducible first | exact HB.out | apply below_alloc | apply pw_below_drewN | apply below_drew1) | exact HB.out)) hb); clear HB; have HB := n0_; clear n0_; (try clear hb); (try clear hb2); (try clear hk); (try clear hi)))
    go_ret
    exact ⟨by first | rfl | (simp [errW_none, errW_some] <;> rfl) | (simp [*, errW_none, errW_some] <;> rfl), by repeat (first | (with_reducible first | exact HB.out | apply below_alloc | apply pw_below_drewN | apply below_drew1) | exact HB.out)⟩

/-- THE ONE PURE STATEMENT of correctorlaw15_ResolveOne: yours. -/
def correctorlaw15_ResolveOne.Pure : Prop := ∀ (l0 : List Int) (a1 : ByteArray), l0.length ≤ maxLen → l0.length * 8 ≤ 140737488351232 → (∀ x ∈ l0, (Lit.int .i64 x).wf = true) → a1.size ≤ 140737488351232 → ∃ k, correctorlaw15_ResolveOne.f k l0 a1 = some true
theorem correctorlaw15_ResolveOne.walk (P : correctorlaw15_ResolveOne.Pure) (a0 : Option Addr) (len0 cap0 : Nat) (z0 : List Int) (a1 : ByteArray) (w : World) (w0 : (a0 = none ∧ len0 = 0 ∧ cap0 = 0 ∧ z0 = []) ∨ ∃ x, a0 = some x ∧ len0 ≤ cap0 ∧ cap0 ≤ maxLen ∧ z0.length = cap0 ∧ (∀ i, i < z0.length → w.cell? (x.add i) = some (.int .i64 (z0.getD i 0))) ∧ ∀ n ∈ z0, (Lit.int .i64 n).wf = true) (y0 : len0 * 8 ≤ 140737488351232) (w1 : a1.size ≤ 140737488351232) :
    Calls Try.prog 11 #[.slice a0 len0 cap0, .string a1] w fun e w' => e = .returned (.bool true) ∧ Below w.heap.size w w' := by
  obtain ⟨l0, rfl, hr0, hm0, hw0, hc0⟩ := ReadsInt.ofRowC w0
  obtain ⟨k, h⟩ := P l0 a1 hm0 y0 hw0 w1
  refine (correctorlaw15_ResolveOne.calls k _ _ l0 a1 true w (Kd.C_of_reads (d := (0 : Int)) (h1 := fun _ => rfl) hr0) hc0 h).mono ?_
  rintro e w' ⟨rfl, hd⟩
  exact ⟨rfl, hd⟩

end Go.Proofs.Ytpigemgiegbblaa.Q
