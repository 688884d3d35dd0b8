/- scan.Tokens. -/
import Derived.Test.YthoogadfhopkfaaSM4
import Derived.Test.YthoogadfhopkfaaQslices
import Derived.StillTailTactics
import Derived.IntWalk
namespace Go.Proofs.Ythoogadfhopkfaa.Sc
open Go.RowKit Go.Proofs.Ythoogadfhopkfaa.Q Go.Proofs.YthoogadfhopkfaaW.PrintWords Go.Proofs.YthoogadfhopkfaaW.PrintLast Go.Proofs.YthoogadfhopkfaaW.PrintMore
attribute [local go_sem] max2_int min2_int max_two min_two max_three min_three max_four min_four
set_option linter.unusedVariables false
set_option linter.unusedSimpArgs false
set_option maxHeartbeats 1000000
set_option maxRecDepth 100000

/-- A scanner's numbers are as they must be. -/
def okB (b : List Int) (s : St) : Bool := decide (0 ≤ s.row) && (decide (s.row ≤ s.at_) && (decide (s.at_ ≤ (b.length : Int)) && (decide ((s.l.length : Int) ≤ s.at_) && (decide (0 ≤ s.op) && (decide (s.op ≤ s.at_) && (decide (-1 ≤ s.base) && decide (s.base ≤ s.at_)))))))
theorem okB_ok {b : List Int} {s : St} (h : okB b s = true) : Ok b s := by
  simp only [okB, Bool.and_eq_true, decide_eq_true_eq] at h
  exact ⟨h.1, h.2.1, h.2.2.1, h.2.2.2.1, h.2.2.2.2.1, h.2.2.2.2.2.1, h.2.2.2.2.2.2.1, h.2.2.2.2.2.2.2⟩
theorem ok_okB {b : List Int} {s : St} (h : Ok b s) : okB b s = true := by
  simp only [okB, Bool.and_eq_true, decide_eq_true_eq]
  exact ⟨h.r0, h.r1, h.a1, h.n, h.o0, h.o1, h.b0, h.b1⟩
/-- Step by step to the end, as long as its numbers are as they must be. -/
def loopO (b : List Int) : Nat → St → Option St
  | 0, _ => none
  | k + 1, s => if okB b s = true then (if s.at_ < (b.length : Int) then loopO b k (stepS b s) else some s) else none
def st0 : St := ⟨0, [], 0, 0, -1, true⟩
/-- What scan.Tokens answers. -/
def toksO (b : List Int) : Option (List S32) := if (b.length : Int) > 16384 then some [] else (loopO b (b.length + 1) st0).bind fun s => some s.l
theorem SR.new (w : World) (A0 : Option Addr) (c0 : Nat) (b : List Int) (hC : Kd.C (Kd.int .u8) w A0 b.length b) (hc : b.length ≤ c0) (hl : (b.length : Int) ≤ 16384) :
    SR w (w.alloc (.cells #[.slice A0 b.length c0, .int .i64 0, .slice none 0 0, .int .i64 0, .int .i64 0, .int .i64 0, .bool false] 43 (0, 0))) w.heap.size A0 c0 b 0 (.slice none 0 0) [] 0 0 0 false :=
  ⟨⟨blk_new w _, Kd.C_alloc hC _, hc, hl⟩, Kd.R_nil _ _ _ _ _, Nat.le_refl _, below_alloc (Below.refl _ _) _, hC⟩

theorem tokens_calls (A0 : Option Addr) (c0 : Nat) (b : List Int) (r : List S32) (w : World) (hr0 : Kd.C (Kd.int .u8) w A0 b.length b) (hc0 : b.length ≤ c0) (h : toksO b = some r) :
    Calls Try.prog 13 #[.slice A0 b.length c0] w fun e w' => ∃ v0_ : Value, e = .returned v0_ ∧ Kd.R k32 32 w' w.heap.size (fun _ => True) v0_ r ∧ Below w.heap.size w w' := by
  unfold toksO at h
  have HC := Aside0.mk hr0
  have HCP := Aside0.mk hc0
  clear hr0 hc0
  by_cases hl : (b.length : Int) > 16384
  · rw [if_pos hl] at h
    obtain rfl := Option.some.inj h
    have d1 : decide ((b.length : Int) > 16384) = true := decide_eq_true hl
    have d2 : decide (b.length > 16384) = true := decide_eq_true (by omega)
    clear h hl
    go_enter Try.func13, Try.ntmps13
    go_wp2
    go_ret
    exact ⟨_, rfl, Kd.R_nil _ _ _ _ _, Below.refl _ _⟩
  · rw [if_neg hl] at h
    obtain ⟨fin, hf, hr⟩ := Option.bind_eq_some_iff.mp h
    obtain rfl := Option.some.inj hr
    have hl2 : (b.length : Int) ≤ 16384 := by omega
    have d1 : decide ((b.length : Int) > 16384) = false := decide_eq_false hl
    have d2 : decide (b.length > 16384) = false := decide_eq_false (by omega)
    have HF := Aside0.mk hf
    have HS0 := Aside0.mk (SR.new w A0 c0 b HC.out HCP.out hl2)
    clear h hr hf hl
    go_enter Try.func13, Try.ntmps13
    go_wp2_with (first | (go_at_call 18; (with_reducible refine (begin_calls w _ w.heap.size A0 c0 b 0 (.slice none 0 0) [] 0 0 0 false HS0.out).mono ?_); rintro e w2 ⟨rfl, h2⟩; have H2 := Aside0.mk h2; clear h2))
    go_loopg [21] (b.length + 1) (fun kq v21 wq => ∃ s : St, Aside0 (loopO b kq s = some fin) ∧ Aside0 (SS w wq w.heap.size A0 c0 b s))
    case atStart => exact ⟨st0, HF, ⟨⟨_, H2.out⟩⟩⟩
    case round =>
      clear H2 HS0 HF
      obtain ⟨s, HX, HSS⟩ := hrel
      obtain ⟨at_, l, op, row, base, dash⟩ := s
      obtain ⟨V, h3⟩ := HSS.out
      have H : Aside0 (SR w wr w.heap.size A0 c0 b at_ V l op row base dash) := ⟨h3⟩
      clear h3 HSS
      have gc0 := H.out.q.cell0
      have gc1 := H.out.q.cell1
      have gc2 := H.out.q.cell2
      have gc3 := H.out.q.cell3
      have gc4 := H.out.q.cell4
      have gc5 := H.out.q.cell5
      have gc6 := H.out.q.cell6
      have HL := HX.out
      clear HX
      cases gk with
      | zero => exact absurd HL (by simp [loopO])
      | succ m =>
        simp only [loopO] at HL
        by_cases ok : okB b (⟨at_, l, op, row, base, dash⟩ : St) = true
        · rw [if_pos ok] at HL
          have K := okB_ok ok
          have HK := Aside0.mk K
          have a1 : at_ ≤ (b.length : Int) := K.a1
          have h0 : 0 ≤ at_ := by have h1_ : 0 ≤ row := K.r0; have h2_ : row ≤ at_ := K.r1; omega
          clear ok
          by_cases c1 : at_ < (b.length : Int)
          · have e1 : decide (at_ < (b.length : Int)) = true := decide_eq_true c1
            rw [if_pos c1] at HL
            have BG : Aside0 (∀ W' V', SR w W' w.heap.size A0 c0 b at_ V' l op row base dash → Calls Try.prog 19 #[.pointer (some ⟨w.heap.size, 0, none⟩)] W' fun e w' => e = .returned (.bool (begunS b (⟨at_, l, op, row, base, dash⟩ : St)).isSome) ∧ SS w w' w.heap.size A0 c0 b ((begunS b (⟨at_, l, op, row, base, dash⟩ : St)).getD (⟨at_, l, op, row, base, dash⟩ : St))) := ⟨fun W' V' h => begun_calls w W' w.heap.size A0 c0 b at_ V' l op row base dash h h0 c1 K.r0 K.r1 (by have h_ : (l.length : Int) ≤ at_ := K.n; omega)⟩
            have LO : Aside0 (∀ W' V', SR w W' w.heap.size A0 c0 b at_ V' l op row base dash → Calls Try.prog 20 #[.pointer (some ⟨w.heap.size, 0, none⟩)] W' fun e w' => e = .returned (.bool (looseS b (⟨at_, l, op, row, base, dash⟩ : St)).isSome) ∧ SS w w' w.heap.size A0 c0 b ((looseS b (⟨at_, l, op, row, base, dash⟩ : St)).getD (⟨at_, l, op, row, base, dash⟩ : St))) := ⟨fun W' V' h => loose_calls w W' w.heap.size A0 c0 b at_ V' l op row base dash h h0 c1 K.r0 K.r1 (by have h_ : (l.length : Int) ≤ at_ := K.n; omega)⟩
            have SI : Aside0 (∀ W' V', SR w W' w.heap.size A0 c0 b at_ V' l op row base dash → Calls Try.prog 21 #[.pointer (some ⟨w.heap.size, 0, none⟩)] W' fun e w' => e = .returned (.bool (signS b (⟨at_, l, op, row, base, dash⟩ : St)).isSome) ∧ SS w w' w.heap.size A0 c0 b ((signS b (⟨at_, l, op, row, base, dash⟩ : St)).getD (⟨at_, l, op, row, base, dash⟩ : St))) := ⟨fun W' V' h => sign_calls w W' w.heap.size A0 c0 b at_ V' l op row base dash h h0 c1 K.r0 K.r1 (by have h_ : (l.length : Int) ≤ at_ := K.n; omega) K.o0 (by have h3_ : op ≤ at_ := K.o1; omega)⟩
            clear K
            by_cases ar : at_ = row
            · have e2 : (at_ == row) = true := beq_iff_eq.mpr ar
              cases hB : begunS b (⟨at_, l, op, row, base, dash⟩ : St) with
              | some t =>
                have AR := Aside0.mk ar
                have BG2 := BG.out
                simp only [hB, Option.isSome_some, Option.isSome_none, Option.getD_some, Option.getD_none] at BG2
                have BG := Aside0.mk BG2
                clear BG2
                have hst : stepS b (⟨at_, l, op, row, base, dash⟩ : St) = t := by unfold stepS; dsimp only; rw [if_pos ar, hB]
                rw [hst] at HL
                have HL2 := Aside0.mk HL
                clear HL hst ar
                clear hB
                go_wp2
                go_quiet (fail)
                go_wp2
                have H1 : Aside0 (SR w (wr.drewN nq) w.heap.size A0 c0 b at_ V l op row base dash) := ⟨H.out.drewN nq⟩
                generalize wr.drewN nq = w1 at *
                clear gc0 gc1 gc2 gc3 gc4 gc5 gc6
                have gc0 := H1.out.q.cell0
                have gc1 := H1.out.q.cell1
                have gc2 := H1.out.q.cell2
                have gc3 := H1.out.q.cell3
                have gc4 := H1.out.q.cell4
                have gc5 := H1.out.q.cell5
                have gc6 := H1.out.q.cell6
                go_still_tail 11, (by kernel_rfl)
                go_wp2_with (first | (go_at_call 19; (with_reducible refine (BG.out _ _ (by first | exact H1.out | exact H1.out.below (below_drew (Below.refl _ _)) | exact H1.out.drewN _ | exact (H1.out.drewN _).below (below_drew (Below.refl _ _)))).mono ?_); rintro e w5 ⟨rfl, h5⟩; obtain ⟨V5, h5⟩ := h5; have H5 := Aside0.mk h5; clear h5))
                go_roundg m
                case measure => omega
                case rel => exact ⟨t, HL2, ⟨⟨_, H5.out⟩⟩⟩
              | none =>
                cases hL : looseS b (⟨at_, l, op, row, base, dash⟩ : St) with
                | some t =>
                  have BG2 := BG.out
                  simp only [hB, Option.isSome_some, Option.isSome_none, Option.getD_some, Option.getD_none] at BG2
                  have BG := Aside0.mk BG2
                  clear BG2
                  have LO2 := LO.out
                  simp only [hL, Option.isSome_some, Option.isSome_none, Option.getD_some, Option.getD_none] at LO2
                  have LO := Aside0.mk LO2
                  clear LO2
                  have hst : stepS b (⟨at_, l, op, row, base, dash⟩ : St) = t := by unfold stepS; dsimp only; rw [if_pos ar, hB, hL]
                  rw [hst] at HL
                  have HL2 := Aside0.mk HL
                  clear HL hst ar
                  clear hB
                  clear hL
                  go_wp2
                  go_quiet (fail)
                  go_wp2
                  have H1 : Aside0 (SR w (wr.drewN nq) w.heap.size A0 c0 b at_ V l op row base dash) := ⟨H.out.drewN nq⟩
                  generalize wr.drewN nq = w1 at *
                  clear gc0 gc1 gc2 gc3 gc4 gc5 gc6
                  have gc0 := H1.out.q.cell0
                  have gc1 := H1.out.q.cell1
                  have gc2 := H1.out.q.cell2
                  have gc3 := H1.out.q.cell3
                  have gc4 := H1.out.q.cell4
                  have gc5 := H1.out.q.cell5
                  have gc6 := H1.out.q.cell6
                  go_still_tail 11, (by kernel_rfl)
                  go_wp2_with (first | (go_at_call 19; (with_reducible refine (BG.out _ _ (by first | exact H1.out | exact H1.out.below (below_drew (Below.refl _ _)) | exact H1.out.drewN _ | exact (H1.out.drewN _).below (below_drew (Below.refl _ _)))).mono ?_); rintro e w5 ⟨rfl, h5⟩; obtain ⟨V5, h5⟩ := h5; have H5 := Aside0.mk h5; clear h5) | (go_at_call 20; (with_reducible refine (LO.out _ _ (by first | exact H5.out | exact H5.out.below (below_drew (Below.refl _ _)) | exact H5.out.drewN _ | exact (H5.out.drewN _).below (below_drew (Below.refl _ _)))).mono ?_); rintro e w6 ⟨rfl, h6⟩; obtain ⟨V6, h6⟩ := h6; have H6 := Aside0.mk h6; clear h6))
                  go_roundg m
                  case measure => omega
                  case rel => exact ⟨t, HL2, ⟨⟨_, H6.out⟩⟩⟩
                | none =>
                  cases hS : signS b (⟨at_, l, op, row, base, dash⟩ : St) with
                  | some t =>
                    have BG2 := BG.out
                    simp only [hB, Option.isSome_some, Option.isSome_none, Option.getD_some, Option.getD_none] at BG2
                    have BG := Aside0.mk BG2
                    clear BG2
                    have LO2 := LO.out
                    simp only [hL, Option.isSome_some, Option.isSome_none, Option.getD_some, Option.getD_none] at LO2
                    have LO := Aside0.mk LO2
                    clear LO2
                    have SI2 := SI.out
                    simp only [hS, Option.isSome_some, Option.isSome_none, Option.getD_some, Option.getD_none] at SI2
                    have SI := Aside0.mk SI2
                    clear SI2
                    have hst : stepS b (⟨at_, l, op, row, base, dash⟩ : St) = t := by unfold stepS; dsimp only; rw [if_pos ar, hB, hL, hS]
                    rw [hst] at HL
                    have HL2 := Aside0.mk HL
                    clear HL hst ar
                    clear hB
                    clear hL
                    clear hS
                    go_wp2
                    go_quiet (fail)
                    go_wp2
                    have H1 : Aside0 (SR w (wr.drewN nq) w.heap.size A0 c0 b at_ V l op row base dash) := ⟨H.out.drewN nq⟩
                    generalize wr.drewN nq = w1 at *
                    clear gc0 gc1 gc2 gc3 gc4 gc5 gc6
                    have gc0 := H1.out.q.cell0
                    have gc1 := H1.out.q.cell1
                    have gc2 := H1.out.q.cell2
                    have gc3 := H1.out.q.cell3
                    have gc4 := H1.out.q.cell4
                    have gc5 := H1.out.q.cell5
                    have gc6 := H1.out.q.cell6
                    go_still_tail 11, (by kernel_rfl)
                    go_wp2_with (first | (go_at_call 19; (with_reducible refine (BG.out _ _ (by first | exact H1.out | exact H1.out.below (below_drew (Below.refl _ _)) | exact H1.out.drewN _ | exact (H1.out.drewN _).below (below_drew (Below.refl _ _)))).mono ?_); rintro e w5 ⟨rfl, h5⟩; obtain ⟨V5, h5⟩ := h5; have H5 := Aside0.mk h5; clear h5) | (go_at_call 20; (with_reducible refine (LO.out _ _ (by first | exact H5.out | exact H5.out.below (below_drew (Below.refl _ _)) | exact H5.out.drewN _ | exact (H5.out.drewN _).below (below_drew (Below.refl _ _)))).mono ?_); rintro e w6 ⟨rfl, h6⟩; obtain ⟨V6, h6⟩ := h6; have H6 := Aside0.mk h6; clear h6) | (go_at_call 21; (with_reducible refine (SI.out _ _ (by first | exact H6.out | exact H6.out.below (below_drew (Below.refl _ _)) | exact H6.out.drewN _ | exact (H6.out.drewN _).below (below_drew (Below.refl _ _)))).mono ?_); rintro e w7 ⟨rfl, h7⟩; obtain ⟨V7, h7⟩ := h7; have H7 := Aside0.mk h7; clear h7))
                    go_roundg m
                    case measure => omega
                    case rel => exact ⟨t, HL2, ⟨⟨_, H7.out⟩⟩⟩
                  | none =>
                    have BG2 := BG.out
                    simp only [hB, Option.isSome_some, Option.isSome_none, Option.getD_some, Option.getD_none] at BG2
                    have BG := Aside0.mk BG2
                    clear BG2
                    have LO2 := LO.out
                    simp only [hL, Option.isSome_some, Option.isSome_none, Option.getD_some, Option.getD_none] at LO2
                    have LO := Aside0.mk LO2
                    clear LO2
                    have SI2 := SI.out
                    simp only [hS, Option.isSome_some, Option.isSome_none, Option.getD_some, Option.getD_none] at SI2
                    have SI := Aside0.mk SI2
                    clear SI2
                    have hst : stepS b (⟨at_, l, op, row, base, dash⟩ : St) = textS b (⟨at_, l, op, row, base, dash⟩ : St) := by unfold stepS; dsimp only; rw [if_pos ar, hB, hL, hS]
                    rw [hst] at HL
                    have HL2 := Aside0.mk HL
                    clear HL hst ar
                    clear hB
                    clear hL
                    clear hS
                    go_wp2
                    go_quiet (fail)
                    go_wp2
                    have H1 : Aside0 (SR w (wr.drewN nq) w.heap.size A0 c0 b at_ V l op row base dash) := ⟨H.out.drewN nq⟩
                    generalize wr.drewN nq = w1 at *
                    clear gc0 gc1 gc2 gc3 gc4 gc5 gc6
                    have gc0 := H1.out.q.cell0
                    have gc1 := H1.out.q.cell1
                    have gc2 := H1.out.q.cell2
                    have gc3 := H1.out.q.cell3
                    have gc4 := H1.out.q.cell4
                    have gc5 := H1.out.q.cell5
                    have gc6 := H1.out.q.cell6
                    go_still_tail 11, (by kernel_rfl)
                    go_wp2_with (first | (go_at_call 19; (with_reducible refine (BG.out _ _ (by first | exact H1.out | exact H1.out.below (below_drew (Below.refl _ _)) | exact H1.out.drewN _ | exact (H1.out.drewN _).below (below_drew (Below.refl _ _)))).mono ?_); rintro e w5 ⟨rfl, h5⟩; obtain ⟨V5, h5⟩ := h5; have H5 := Aside0.mk h5; clear h5) | (go_at_call 20; (with_reducible refine (LO.out _ _ (by first | exact H5.out | exact H5.out.below (below_drew (Below.refl _ _)) | exact H5.out.drewN _ | exact (H5.out.drewN _).below (below_drew (Below.refl _ _)))).mono ?_); rintro e w6 ⟨rfl, h6⟩; obtain ⟨V6, h6⟩ := h6; have H6 := Aside0.mk h6; clear h6) | (go_at_call 21; (with_reducible refine (SI.out _ _ (by first | exact H6.out | exact H6.out.below (below_drew (Below.refl _ _)) | exact H6.out.drewN _ | exact (H6.out.drewN _).below (below_drew (Below.refl _ _)))).mono ?_); rintro e w7 ⟨rfl, h7⟩; obtain ⟨V7, h7⟩ := h7; have H7 := Aside0.mk h7; clear h7) | (go_at_call 22; (with_reducible refine (text_calls w _ w.heap.size A0 c0 b at_ _ l op row base dash (by first | exact H7.out | exact H7.out.below (below_drew (Below.refl _ _)) | exact H7.out.drewN _ | exact (H7.out.drewN _).below (below_drew (Below.refl _ _))) HK.out h0 c1).mono ?_); rintro e w8 ⟨rfl, h8⟩; have H8 := Aside0.mk h8; clear h8))
                    go_roundg m
                    case measure => omega
                    case rel => exact ⟨textS b (⟨at_, l, op, row, base, dash⟩ : St), HL2, ⟨H8.out⟩⟩
            · have e2 : (at_ == row) = false := beq_eq_false_iff_ne.mpr ar
              cases hL : looseS b (⟨at_, l, op, row, base, dash⟩ : St) with
              | some t =>
                have LO2 := LO.out
                simp only [hL, Option.isSome_some, Option.isSome_none, Option.getD_some, Option.getD_none] at LO2
                have LO := Aside0.mk LO2
                clear LO2
                have hst : stepS b (⟨at_, l, op, row, base, dash⟩ : St) = t := by unfold stepS; dsimp only; rw [if_neg ar, hL]
                rw [hst] at HL
                have HL2 := Aside0.mk HL
                clear HL hst
                clear hL
                go_wp2
                go_quiet (fail)
                go_wp2
                have H1 : Aside0 (SR w (wr.drewN nq) w.heap.size A0 c0 b at_ V l op row base dash) := ⟨H.out.drewN nq⟩
                generalize wr.drewN nq = w1 at *
                clear gc0 gc1 gc2 gc3 gc4 gc5 gc6
                have gc0 := H1.out.q.cell0
                have gc1 := H1.out.q.cell1
                have gc2 := H1.out.q.cell2
                have gc3 := H1.out.q.cell3
                have gc4 := H1.out.q.cell4
                have gc5 := H1.out.q.cell5
                have gc6 := H1.out.q.cell6
                go_still_tail 11, (by kernel_rfl)
                go_wp2_with (first | (go_at_call 20; (with_reducible refine (LO.out _ _ (by first | exact H1.out | exact H1.out.below (below_drew (Below.refl _ _)) | exact H1.out.drewN _ | exact (H1.out.drewN _).below (below_drew (Below.refl _ _)))).mono ?_); rintro e w5 ⟨rfl, h5⟩; obtain ⟨V5, h5⟩ := h5; have H5 := Aside0.mk h5; clear h5))
                go_roundg m
                case measure => omega
                case rel => exact ⟨t, HL2, ⟨⟨_, H5.out⟩⟩⟩
              | none =>
                cases hS : signS b (⟨at_, l, op, row, base, dash⟩ : St) with
                | some t =>
                  have LO2 := LO.out
                  simp only [hL, Option.isSome_some, Option.isSome_none, Option.getD_some, Option.getD_none] at LO2
                  have LO := Aside0.mk LO2
                  clear LO2
                  have SI2 := SI.out
                  simp only [hS, Option.isSome_some, Option.isSome_none, Option.getD_some, Option.getD_none] at SI2
                  have SI := Aside0.mk SI2
                  clear SI2
                  have hst : stepS b (⟨at_, l, op, row, base, dash⟩ : St) = t := by unfold stepS; dsimp only; rw [if_neg ar, hL, hS]
                  rw [hst] at HL
                  have HL2 := Aside0.mk HL
                  clear HL hst
                  clear hL
                  clear hS
                  go_wp2
                  go_quiet (fail)
                  go_wp2
                  have H1 : Aside0 (SR w (wr.drewN nq) w.heap.size A0 c0 b at_ V l op row base dash) := ⟨H.out.drewN nq⟩
                  generalize wr.drewN nq = w1 at *
                  clear gc0 gc1 gc2 gc3 gc4 gc5 gc6
                  have gc0 := H1.out.q.cell0
                  have gc1 := H1.out.q.cell1
                  have gc2 := H1.out.q.cell2
                  have gc3 := H1.out.q.cell3
                  have gc4 := H1.out.q.cell4
                  have gc5 := H1.out.q.cell5
                  have gc6 := H1.out.q.cell6
                  go_still_tail 11, (by kernel_rfl)
                  go_wp2_with (first | (go_at_call 20; (with_reducible refine (LO.out _ _ (by first | exact H1.out | exact H1.out.below (below_drew (Below.refl _ _)) | exact H1.out.drewN _ | exact (H1.out.drewN _).below (below_drew (Below.refl _ _)))).mono ?_); rintro e w5 ⟨rfl, h5⟩; obtain ⟨V5, h5⟩ := h5; have H5 := Aside0.mk h5; clear h5) | (go_at_call 21; (with_reducible refine (SI.out _ _ (by first | exact H5.out | exact H5.out.below (below_drew (Below.refl _ _)) | exact H5.out.drewN _ | exact (H5.out.drewN _).below (below_drew (Below.refl _ _)))).mono ?_); rintro e w6 ⟨rfl, h6⟩; obtain ⟨V6, h6⟩ := h6; have H6 := Aside0.mk h6; clear h6))
                  go_roundg m
                  case measure => omega
                  case rel => exact ⟨t, HL2, ⟨⟨_, H6.out⟩⟩⟩
                | none =>
                  have LO2 := LO.out
                  simp only [hL, Option.isSome_some, Option.isSome_none, Option.getD_some, Option.getD_none] at LO2
                  have LO := Aside0.mk LO2
                  clear LO2
                  have SI2 := SI.out
                  simp only [hS, Option.isSome_some, Option.isSome_none, Option.getD_some, Option.getD_none] at SI2
                  have SI := Aside0.mk SI2
                  clear SI2
                  have hst : stepS b (⟨at_, l, op, row, base, dash⟩ : St) = textS b (⟨at_, l, op, row, base, dash⟩ : St) := by unfold stepS; dsimp only; rw [if_neg ar, hL, hS]
                  rw [hst] at HL
                  have HL2 := Aside0.mk HL
                  clear HL hst
                  clear hL
                  clear hS
                  go_wp2
                  go_quiet (fail)
                  go_wp2
                  have H1 : Aside0 (SR w (wr.drewN nq) w.heap.size A0 c0 b at_ V l op row base dash) := ⟨H.out.drewN nq⟩
                  generalize wr.drewN nq = w1 at *
                  clear gc0 gc1 gc2 gc3 gc4 gc5 gc6
                  have gc0 := H1.out.q.cell0
                  have gc1 := H1.out.q.cell1
                  have gc2 := H1.out.q.cell2
                  have gc3 := H1.out.q.cell3
                  have gc4 := H1.out.q.cell4
                  have gc5 := H1.out.q.cell5
                  have gc6 := H1.out.q.cell6
                  go_still_tail 11, (by kernel_rfl)
                  go_wp2_with (first | (go_at_call 20; (with_reducible refine (LO.out _ _ (by first | exact H1.out | exact H1.out.below (below_drew (Below.refl _ _)) | exact H1.out.drewN _ | exact (H1.out.drewN _).below (below_drew (Below.refl _ _)))).mono ?_); rintro e w5 ⟨rfl, h5⟩; obtain ⟨V5, h5⟩ := h5; have H5 := Aside0.mk h5; clear h5) | (go_at_call 21; (with_reducible refine (SI.out _ _ (by first | exact H5.out | exact H5.out.below (below_drew (Below.refl _ _)) | exact H5.out.drewN _ | exact (H5.out.drewN _).below (below_drew (Below.refl _ _)))).mono ?_); rintro e w6 ⟨rfl, h6⟩; obtain ⟨V6, h6⟩ := h6; have H6 := Aside0.mk h6; clear h6) | (go_at_call 22; (with_reducible refine (text_calls w _ w.heap.size A0 c0 b at_ _ l op row base dash (by first | exact H6.out | exact H6.out.below (below_drew (Below.refl _ _)) | exact H6.out.drewN _ | exact (H6.out.drewN _).below (below_drew (Below.refl _ _))) HK.out h0 c1).mono ?_); rintro e w7 ⟨rfl, h7⟩; have H7 := Aside0.mk h7; clear h7))
                  go_roundg m
                  case measure => omega
                  case rel => exact ⟨textS b (⟨at_, l, op, row, base, dash⟩ : St), HL2, ⟨H7.out⟩⟩
          · have e1 : decide (at_ < (b.length : Int)) = false := decide_eq_false c1
            rw [if_neg c1] at HL
            obtain rfl := Option.some.inj HL
            obtain ⟨A2, c2, rfl⟩ := Kd.R_slice H.out.r
            have hn_ : (l.length : Int) ≤ at_ := K.n
            have CL := Aside0.mk (show api_Token.f l = some l from if_pos (by omega))
            clear HL K
            go_wp2
            go_quiet (fail)
            go_wp2_with (first | (go_at_call 23; (with_reducible refine (api_Token.calls A2 c2 l l _ (Kd.R_reads' (H.out.drewN _).r).2.2 (by have h_ := (Kd.R_reads' H.out.r).2.1; omega) CL.out).mono ?_); rintro e w7 ⟨v7, rfl, hr7, hb7⟩; have R7 := Aside0.mk hr7; have B7 := Aside0.mk hb7; clear hr7 hb7; obtain ⟨A7, c7, e7⟩ := Kd.R_slice R7.out; subst e7))
            go_ret
            exact ⟨_, rfl, Kd.R_raise (b := (wr.drewN nq).heap.size) (b' := w.heap.size) (fun _ _ _ _ h_ => h_) R7.out (fun k_ hk_ => Nat.le_trans (H.out.drewN _).B.size (Kd.R_base R7.out k_ hk_)), below_step (H.out.drewN _).B B7.out⟩
        · rw [if_neg ok] at HL
          cases HL

end Go.Proofs.Ythoogadfhopkfaa.Sc
