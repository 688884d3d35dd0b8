/- correctorref6.Tokens. -/
import Derived.Test.YtagjfcogbnhmgaaRF8
import Derived.Test.YtagjfcogbnhmgaaRF9
namespace Go.Proofs.Ytagjfcogbnhmgaa.Rf
open Go.RowKit Go.Proofs.Ytagjfcogbnhmgaa.Q Go.Proofs.YtagjfcogbnhmgaaW.PrintWords Go.Proofs.YtagjfcogbnhmgaaW.PrintLast Go.Proofs.YtagjfcogbnhmgaaW.PrintMore Go.Proofs.Ytagjfcogbnhmgaa.Sc Go.Proofs.Ytagjfcogbnhmgaa.Pure
attribute [local go_sem] max2_int min2_int max_two min_two max_three min_three max_four min_four
set_option linter.unusedVariables false
set_option linter.unusedSimpArgs false
set_option maxHeartbeats 1000000
set_option maxRecDepth 100000

/-- okR, spelled out. -/
structure OkR (b : List Int) (s : RSt) : Prop where
  r0 : 0 ≤ s.row
  r1 : s.row ≤ s.at_
  a1 : s.at_ ≤ (b.length : Int)
  n : (s.l.length : Int) ≤ s.at_
  o0 : 0 ≤ s.op
  o1 : s.op ≤ s.at_
  b0 : -1 ≤ s.base
  b1 : s.base ≤ s.at_
  t0 : -2 ≤ s.text
  t1 : s.text ≤ s.at_
  f : s.at_ = s.row ∨ 0 < s.l.length
theorem okR_ok {b : List Int} {s : RSt} (h : okR b s = true) : OkR b s := by
  simp only [okR, Bool.and_eq_true, Bool.or_eq_true, decide_eq_true_eq] at h
  exact ⟨h.1, h.2.1, h.2.2.1, h.2.2.2.1, h.2.2.2.2.1, h.2.2.2.2.2.1, h.2.2.2.2.2.2.1, h.2.2.2.2.2.2.2.1, h.2.2.2.2.2.2.2.2.1, h.2.2.2.2.2.2.2.2.2.1, h.2.2.2.2.2.2.2.2.2.2⟩
theorem ok_okR {b : List Int} {s : RSt} (h : OkR b s) : okR b s = true := by
  simp only [okR, Bool.and_eq_true, Bool.or_eq_true, decide_eq_true_eq]
  exact ⟨h.r0, h.r1, h.a1, h.n, h.o0, h.o1, h.b0, h.b1, h.t0, h.t1, h.f⟩
theorem RR.new (w : World) (A0 : Option Addr) (c0 : Nat) (b : List Int) (hC : Kd.C (Kd.int .u8) w A0 b.length b) (hc : b.length ≤ c0) (hl : (b.length : Int) ≤ 16384) :
    RR w (w.alloc (.cells #[.slice A0 b.length c0, .int .i64 0, .int .i64 0, .int .i64 0, .int .i64 0, .bool false, .int .i64 (-2), .slice none 0 0] 37 (0, 0))) w.heap.size A0 c0 b 0 0 0 0 false (-2) (.slice none 0 0) [] :=
  ⟨⟨blk_new w _, Kd.C_alloc hC _, hc, hl⟩, Kd.R_nil _ _ _ _ _, Nat.le_refl _, below_alloc (Below.refl _ _) _, hC⟩
theorem markR_in (b : List Int) (i : Int) : markR b i = 0 ∨ markR b i = 20 ∨ markR b i = 21 := by
  unfold markR
  repeat' split
  all_goals simp
theorem markR_end {b : List Int} {i : Int} (h : markR b i > 0) : i + 3 ≤ (b.length : Int) := by
  unfold markR at h
  split at h
  · omega
  · rename_i h1
    omega

theorem tokens_calls (A0 : Option Addr) (c0 : Nat) (b : List Int) (r : List S48) (w : World) (hr0 : Kd.C (Kd.int .u8) w A0 b.length b) (hc0 : b.length ≤ c0) (h : toksR b = some r) :
    Calls Try.prog 5 #[.slice A0 b.length c0] w fun e w' => ∃ v0_ : Value, e = .returned v0_ ∧ Kd.R k48 48 w' w.heap.size (fun _ => True) v0_ r ∧ Below w.heap.size w w' := by
  unfold toksR at h
  have HC := Aside0.mk hr0
  have HCP := Aside0.mk hc0
  clear hr0 hc0
  by_cases hl : (b.length : Int) > 16384
  · rw [if_pos hl] at h
    obtain rfl := Option.some.inj h
    have d1 : decide ((b.length : Int) > 16384) = true := decide_eq_true hl
    have d2 : decide (b.length > 16384) = true := decide_eq_true (by omega)
    clear h hl
    go_enter Try.func5, Try.ntmps5
    go_wp2
    go_ret
    exact ⟨_, rfl, Kd.R_nil _ _ _ _ _, Below.refl _ _⟩
  · rw [if_neg hl] at h
    by_cases hb : bytB b = true
    · rw [if_pos hb] at h
      have HB := Aside0.mk (bytB_byt hb)
      obtain ⟨fin, hf, hr⟩ := Option.bind_eq_some_iff.mp h
      obtain rfl := Option.some.inj hr
      have hl2 : (b.length : Int) ≤ 16384 := by omega
      have d1 : decide ((b.length : Int) > 16384) = false := decide_eq_false hl
      have d2 : decide (b.length > 16384) = false := decide_eq_false (by omega)
      have HF := Aside0.mk hf
      have HS0 := Aside0.mk (RR.new w A0 c0 b HC.out HCP.out hl2)
      clear h hr hf hl hb
      go_enter Try.func5, Try.ntmps5
      go_wp2_with (first | (go_at_call 8; (with_reducible refine (scnext_calls w _ w.heap.size A0 c0 b 0 0 0 0 false (-2) (.slice none 0 0) [] HS0.out).mono ?_); rintro e w2 ⟨rfl, h2⟩; have H2 := Aside0.mk h2; clear h2))
      go_loopg [4] (b.length + 1) (fun kq v4 wq => ∃ s : RSt, Aside0 (loopR b kq s = some fin) ∧ Aside0 (RS w wq w.heap.size A0 c0 b s))
      case atStart => exact ⟨rs0, HF, ⟨⟨_, H2.out⟩⟩⟩
      case round =>
        clear H2 HS0 HF
        obtain ⟨s, HX, HSS⟩ := hrel
        obtain ⟨at_, row, op, base, only, text, l⟩ := s
        obtain ⟨V, h3⟩ := HSS.out
        have H : Aside0 (RR w wr w.heap.size A0 c0 b at_ row op base only text V l) := ⟨h3⟩
        clear h3 HSS
        have gc0 := H.out.q.cell0
        have gc1 := H.out.q.cell1
        have gc2 := H.out.q.cell2
        have gc3 := H.out.q.cell3
        have gc4 := H.out.q.cell4
        have gc5 := H.out.q.cell5
        have gc6 := H.out.q.cell6
        have gc7 := H.out.q.cell7
        have gf1 := blk_frozen H.out.q.blk 1
        have gf2 := blk_frozen H.out.q.blk 2
        have gf3 := blk_frozen H.out.q.blk 3
        have gf4 := blk_frozen H.out.q.blk 4
        have gf5 := blk_frozen H.out.q.blk 5
        have gf6 := blk_frozen H.out.q.blk 6
        have gf7 := blk_frozen H.out.q.blk 7
        have HL := HX.out
        clear HX
        cases gk with
        | zero => exact absurd HL (by simp [loopR])
        | succ m =>
          simp only [loopR] at HL
          by_cases ok : okR b (⟨at_, row, op, base, only, text, l⟩ : RSt) = true
          · rw [if_pos ok] at HL
            have K := Aside0.mk (okR_ok ok)
            have k1 : 0 ≤ row := K.out.r0
            have k2 : row ≤ at_ := K.out.r1
            have k3 : at_ ≤ (b.length : Int) := K.out.a1
            have k4 : (l.length : Int) ≤ at_ := K.out.n
            have k5 : 0 ≤ op := K.out.o0
            have k6 : op ≤ at_ := K.out.o1
            have k8 : base ≤ at_ := K.out.b1
            have k11 : at_ = row ∨ 0 < l.length := K.out.f
            have h0 : 0 ≤ at_ := by omega
            clear ok
            by_cases c1 : at_ < (b.length : Int)
            · have e1 : decide (at_ < (b.length : Int)) = true := decide_eq_true c1
              rw [if_pos c1] at HL
              by_cases ar : at_ = row
              · have e2 : (at_ == row) = true := beq_iff_eq.mpr ar
                have mm : markOf b (⟨at_, row, op, base, only, text, l⟩ : RSt) = markR b at_ := if_pos ar
                clear ar
                by_cases mk : markR b at_ > 0
                · have e3 : decide (markR b at_ > 0) = true := decide_eq_true mk
                  have hst : stepR b (⟨at_, row, op, base, only, text, l⟩ : RSt) = withOp 0 (addR (markR b at_) (at_ + 3) (⟨at_, row, op, base, only, text, l⟩ : RSt)) := by unfold stepR; dsimp only; rw [if_pos (by rw [mm]; exact mk), mm]
                  rw [hst] at HL
                  have HL2 := Aside0.mk HL
                  clear HL hst
                  try clear hS
                  try clear hQ
                  try clear mm
                  go_wp2
                  go_quiet (fail)
                  go_wp2_with (first | (go_at_call 9; (with_reducible refine (mark_calls _ w.heap.size _ c0 b at_ row op base only text V (by first | exact H.out.q | exact H.out.q.drewN _ | exact (H.out.q.drewN _).drewN _) _ (by omega) (by omega)).mono ?_); rintro e w1 ⟨rfl, n1, rfl⟩) | (go_at_call 10; (with_reducible refine (add_calls w _ w.heap.size _ c0 b at_ row op base only text V l (by repeat (first | exact H.out | exact H.out.drewN _ | exact (H.out.drewN _).drewN _ | (with_reducible first | apply RR.drew | apply RR.set1 | apply RR.set2 | apply RR.set3 | apply RR.set4 | apply RR.set5 | apply RR.set6))) _ _ (by omega) (by omega) (by omega) (by omega)).mono ?_); rintro e w2 ⟨rfl, V5, h2⟩; have H5 := Aside0.mk h2; have pc0 := h2.q.cell0; have pc1 := h2.q.cell1; have pc2 := h2.q.cell2; have pc3 := h2.q.cell3; have pc4 := h2.q.cell4; have pc5 := h2.q.cell5; have pc6 := h2.q.cell6; have pc7 := h2.q.cell7; have pf1 := blk_frozen h2.q.blk 1; have pf2 := blk_frozen h2.q.blk 2; have pf3 := blk_frozen h2.q.blk 3; have pf4 := blk_frozen h2.q.blk 4; have pf5 := blk_frozen h2.q.blk 5; have pf6 := blk_frozen h2.q.blk 6; have pf7 := blk_frozen h2.q.blk 7; clear h2))
                  go_roundg m
                  case measure => omega
                  case rel => exact ⟨withOp 0 (addR (markR b at_) (at_ + 3) (⟨at_, row, op, base, only, text, l⟩ : RSt)), HL2, ⟨⟨V5, (show RR w _ w.heap.size _ c0 b (at_ + 3) row 0 (adBase (markR b at_) at_ row base) (adOnly (markR b at_) only) text V5 (l ++ [⟨markR b at_, at_, at_ + 3⟩]) from by repeat (first | exact H5.out | exact H5.out.drewN _ | exact (H5.out.drewN _).drewN _ | (with_reducible first | apply RR.drew | apply RR.set1 | apply RR.set2 | apply RR.set3 | apply RR.set4 | apply RR.set5 | apply RR.set6)))⟩⟩⟩
                · have e3 : decide (markR b at_ > 0) = false := decide_eq_false mk
                  have SP : Aside0 (∀ W' V', RR w W' w.heap.size A0 c0 b at_ row op base only text V' l → Calls Try.prog 11 #[.pointer (some ⟨w.heap.size, 0, none⟩)] W' fun e w' => e = .returned (.bool (spaceS b (⟨at_, row, op, base, only, text, l⟩ : RSt)).isSome) ∧ RS w w' w.heap.size A0 c0 b ((spaceS b (⟨at_, row, op, base, only, text, l⟩ : RSt)).getD (⟨at_, row, op, base, only, text, l⟩ : RSt))) := ⟨fun W' V' h => scspace_calls w W' w.heap.size A0 c0 b at_ row op base only text V' l h h0 c1 k1 k2 k4 k11⟩
                  have BR : Aside0 (∀ W' V', RR w W' w.heap.size A0 c0 b at_ row op base only text V' l → Calls Try.prog 12 #[.pointer (some ⟨w.heap.size, 0, none⟩)] W' fun e w' => e = .returned (.bool (bracketS b (⟨at_, row, op, base, only, text, l⟩ : RSt)).isSome) ∧ RS w w' w.heap.size A0 c0 b ((bracketS b (⟨at_, row, op, base, only, text, l⟩ : RSt)).getD (⟨at_, row, op, base, only, text, l⟩ : RSt))) := ⟨fun W' V' h => bracket_calls w W' w.heap.size A0 c0 b at_ row op base only text V' l h h0 c1 k1 k2 (by omega) k5 (by omega)⟩
                  cases hS : spaceS b (⟨at_, row, op, base, only, text, l⟩ : RSt) with
                  | some t =>
                    have SP2 := SP.out
                    simp only [hS, Option.isSome_some, Option.isSome_none, Option.getD_some, Option.getD_none] at SP2
                    have SP := Aside0.mk SP2
                    clear SP2
                    have hst : stepR b (⟨at_, row, op, base, only, text, l⟩ : RSt) = t := by unfold stepR; dsimp only; rw [if_neg (by rw [mm]; exact mk), hS]
                    rw [hst] at HL
                    have HL2 := Aside0.mk HL
                    clear HL hst
                    try clear hS
                    try clear hQ
                    try clear mm
                    go_wp2
                    go_quiet (fail)
                    go_wp2_with (first | (go_at_call 9; (with_reducible refine (mark_calls _ w.heap.size _ c0 b at_ row op base only text V (by first | exact H.out.q | exact H.out.q.drewN _ | exact (H.out.q.drewN _).drewN _) _ (by omega) (by omega)).mono ?_); rintro e w1 ⟨rfl, n1, rfl⟩) | (go_at_call 11; (with_reducible refine (SP.out _ _ (by first | exact H.out | exact H.out.drewN _ | exact (H.out.drewN _).drewN _)).mono ?_); rintro e w5 ⟨rfl, h5⟩; obtain ⟨V6, h5⟩ := h5; have H6 := Aside0.mk h5; clear h5))
                    go_roundg m
                    case measure => omega
                    case rel => exact ⟨t, HL2, ⟨⟨_, H6.out⟩⟩⟩
                  | none =>
                    cases hQ : bracketS b (⟨at_, row, op, base, only, text, l⟩ : RSt) with
                    | some t =>
                      have SP2 := SP.out
                      simp only [hS, Option.isSome_some, Option.isSome_none, Option.getD_some, Option.getD_none] at SP2
                      have SP := Aside0.mk SP2
                      clear SP2
                      have BR2 := BR.out
                      simp only [hQ, Option.isSome_some, Option.isSome_none, Option.getD_some, Option.getD_none] at BR2
                      have BR := Aside0.mk BR2
                      clear BR2
                      have hst : stepR b (⟨at_, row, op, base, only, text, l⟩ : RSt) = t := by unfold stepR; dsimp only; rw [if_neg (by rw [mm]; exact mk), hS, hQ]
                      rw [hst] at HL
                      have HL2 := Aside0.mk HL
                      clear HL hst
                      try clear hS
                      try clear hQ
                      try clear mm
                      go_wp2
                      go_quiet (fail)
                      go_wp2_with (first | (go_at_call 9; (with_reducible refine (mark_calls _ w.heap.size _ c0 b at_ row op base only text V (by first | exact H.out.q | exact H.out.q.drewN _ | exact (H.out.q.drewN _).drewN _) _ (by omega) (by omega)).mono ?_); rintro e w1 ⟨rfl, n1, rfl⟩) | (go_at_call 11; (with_reducible refine (SP.out _ _ (by first | exact H.out | exact H.out.drewN _ | exact (H.out.drewN _).drewN _)).mono ?_); rintro e w5 ⟨rfl, h5⟩; obtain ⟨V6, h5⟩ := h5; have H6 := Aside0.mk h5; clear h5) | (go_at_call 12; (with_reducible refine (BR.out _ _ (by first | exact H6.out | exact H6.out.drewN _ | exact (H6.out.drewN _).drewN _)).mono ?_); rintro e w5 ⟨rfl, h5⟩; obtain ⟨V7, h5⟩ := h5; have H7 := Aside0.mk h5; clear h5))
                      go_roundg m
                      case measure => omega
                      case rel => exact ⟨t, HL2, ⟨⟨_, H7.out⟩⟩⟩
                    | none =>
                      have SP2 := SP.out
                      simp only [hS, Option.isSome_some, Option.isSome_none, Option.getD_some, Option.getD_none] at SP2
                      have SP := Aside0.mk SP2
                      clear SP2
                      have BR2 := BR.out
                      simp only [hQ, Option.isSome_some, Option.isSome_none, Option.getD_some, Option.getD_none] at BR2
                      have BR := Aside0.mk BR2
                      clear BR2
                      have hst : stepR b (⟨at_, row, op, base, only, text, l⟩ : RSt) = wordS b (⟨at_, row, op, base, only, text, l⟩ : RSt) := by unfold stepR; dsimp only; rw [if_neg (by rw [mm]; exact mk), hS, hQ]
                      rw [hst] at HL
                      have HL2 := Aside0.mk HL
                      clear HL hst
                      try clear hS
                      try clear hQ
                      try clear mm
                      go_wp2
                      go_quiet (fail)
                      go_wp2_with (first | (go_at_call 9; (with_reducible refine (mark_calls _ w.heap.size _ c0 b at_ row op base only text V (by first | exact H.out.q | exact H.out.q.drewN _ | exact (H.out.q.drewN _).drewN _) _ (by omega) (by omega)).mono ?_); rintro e w1 ⟨rfl, n1, rfl⟩) | (go_at_call 11; (with_reducible refine (SP.out _ _ (by first | exact H.out | exact H.out.drewN _ | exact (H.out.drewN _).drewN _)).mono ?_); rintro e w5 ⟨rfl, h5⟩; obtain ⟨V6, h5⟩ := h5; have H6 := Aside0.mk h5; clear h5) | (go_at_call 12; (with_reducible refine (BR.out _ _ (by first | exact H6.out | exact H6.out.drewN _ | exact (H6.out.drewN _).drewN _)).mono ?_); rintro e w5 ⟨rfl, h5⟩; obtain ⟨V7, h5⟩ := h5; have H7 := Aside0.mk h5; clear h5) | (go_at_call 13; (with_reducible refine (word_calls w _ w.heap.size A0 c0 b at_ row op base only text _ l (by first | exact H7.out | exact H7.out.drewN _ | exact (H7.out.drewN _).drewN _) HB.out K.out.b0 (by omega) h0 c1 k1 k2 (by omega) k5 (by omega)).mono ?_); rintro e w5 ⟨rfl, h5⟩; obtain ⟨V9, h5⟩ := h5; have H9 := Aside0.mk h5; clear h5))
                      go_roundg m
                      case measure => omega
                      case rel => exact ⟨wordS b (⟨at_, row, op, base, only, text, l⟩ : RSt), HL2, ⟨⟨_, H9.out⟩⟩⟩
              · have e2 : (at_ == row) = false := beq_eq_false_iff_ne.mpr ar
                have mm : markOf b (⟨at_, row, op, base, only, text, l⟩ : RSt) = 0 := if_neg ar
                clear ar
                have SP : Aside0 (∀ W' V', RR w W' w.heap.size A0 c0 b at_ row op base only text V' l → Calls Try.prog 11 #[.pointer (some ⟨w.heap.size, 0, none⟩)] W' fun e w' => e = .returned (.bool (spaceS b (⟨at_, row, op, base, only, text, l⟩ : RSt)).isSome) ∧ RS w w' w.heap.size A0 c0 b ((spaceS b (⟨at_, row, op, base, only, text, l⟩ : RSt)).getD (⟨at_, row, op, base, only, text, l⟩ : RSt))) := ⟨fun W' V' h => scspace_calls w W' w.heap.size A0 c0 b at_ row op base only text V' l h h0 c1 k1 k2 k4 k11⟩
                have BR : Aside0 (∀ W' V', RR w W' w.heap.size A0 c0 b at_ row op base only text V' l → Calls Try.prog 12 #[.pointer (some ⟨w.heap.size, 0, none⟩)] W' fun e w' => e = .returned (.bool (bracketS b (⟨at_, row, op, base, only, text, l⟩ : RSt)).isSome) ∧ RS w w' w.heap.size A0 c0 b ((bracketS b (⟨at_, row, op, base, only, text, l⟩ : RSt)).getD (⟨at_, row, op, base, only, text, l⟩ : RSt))) := ⟨fun W' V' h => bracket_calls w W' w.heap.size A0 c0 b at_ row op base only text V' l h h0 c1 k1 k2 (by omega) k5 (by omega)⟩
                cases hS : spaceS b (⟨at_, row, op, base, only, text, l⟩ : RSt) with
                | some t =>
                  have SP2 := SP.out
                  simp only [hS, Option.isSome_some, Option.isSome_none, Option.getD_some, Option.getD_none] at SP2
                  have SP := Aside0.mk SP2
                  clear SP2
                  have hst : stepR b (⟨at_, row, op, base, only, text, l⟩ : RSt) = t := by unfold stepR; dsimp only; rw [if_neg (by rw [mm]; decide), hS]
                  rw [hst] at HL
                  have HL2 := Aside0.mk HL
                  clear HL hst
                  try clear hS
                  try clear hQ
                  try clear mm
                  go_wp2
                  go_quiet (fail)
                  go_wp2_with (first | (go_at_call 11; (with_reducible refine (SP.out _ _ (by first | exact H.out | exact H.out.drewN _ | exact (H.out.drewN _).drewN _)).mono ?_); rintro e w5 ⟨rfl, h5⟩; obtain ⟨V6, h5⟩ := h5; have H6 := Aside0.mk h5; clear h5))
                  go_roundg m
                  case measure => omega
                  case rel => exact ⟨t, HL2, ⟨⟨_, H6.out⟩⟩⟩
                | none =>
                  cases hQ : bracketS b (⟨at_, row, op, base, only, text, l⟩ : RSt) with
                  | some t =>
                    have SP2 := SP.out
                    simp only [hS, Option.isSome_some, Option.isSome_none, Option.getD_some, Option.getD_none] at SP2
                    have SP := Aside0.mk SP2
                    clear SP2
                    have BR2 := BR.out
                    simp only [hQ, Option.isSome_some, Option.isSome_none, Option.getD_some, Option.getD_none] at BR2
                    have BR := Aside0.mk BR2
                    clear BR2
                    have hst : stepR b (⟨at_, row, op, base, only, text, l⟩ : RSt) = t := by unfold stepR; dsimp only; rw [if_neg (by rw [mm]; decide), hS, hQ]
                    rw [hst] at HL
                    have HL2 := Aside0.mk HL
                    clear HL hst
                    try clear hS
                    try clear hQ
                    try clear mm
                    go_wp2
                    go_quiet (fail)
                    go_wp2_with (first | (go_at_call 11; (with_reducible refine (SP.out _ _ (by first | exact H.out | exact H.out.drewN _ | exact (H.out.drewN _).drewN _)).mono ?_); rintro e w5 ⟨rfl, h5⟩; obtain ⟨V6, h5⟩ := h5; have H6 := Aside0.mk h5; clear h5) | (go_at_call 12; (with_reducible refine (BR.out _ _ (by first | exact H6.out | exact H6.out.drewN _ | exact (H6.out.drewN _).drewN _)).mono ?_); rintro e w5 ⟨rfl, h5⟩; obtain ⟨V7, h5⟩ := h5; have H7 := Aside0.mk h5; clear h5))
                    go_roundg m
                    case measure => omega
                    case rel => exact ⟨t, HL2, ⟨⟨_, H7.out⟩⟩⟩
                  | none =>
                    have SP2 := SP.out
                    simp only [hS, Option.isSome_some, Option.isSome_none, Option.getD_some, Option.getD_none] at SP2
                    have SP := Aside0.mk SP2
                    clear SP2
                    have BR2 := BR.out
                    simp only [hQ, Option.isSome_some, Option.isSome_none, Option.getD_some, Option.getD_none] at BR2
                    have BR := Aside0.mk BR2
                    clear BR2
                    have hst : stepR b (⟨at_, row, op, base, only, text, l⟩ : RSt) = wordS b (⟨at_, row, op, base, only, text, l⟩ : RSt) := by unfold stepR; dsimp only; rw [if_neg (by rw [mm]; decide), hS, hQ]
                    rw [hst] at HL
                    have HL2 := Aside0.mk HL
                    clear HL hst
                    try clear hS
                    try clear hQ
                    try clear mm
                    go_wp2
                    go_quiet (fail)
                    go_wp2_with (first | (go_at_call 11; (with_reducible refine (SP.out _ _ (by first | exact H.out | exact H.out.drewN _ | exact (H.out.drewN _).drewN _)).mono ?_); rintro e w5 ⟨rfl, h5⟩; obtain ⟨V6, h5⟩ := h5; have H6 := Aside0.mk h5; clear h5) | (go_at_call 12; (with_reducible refine (BR.out _ _ (by first | exact H6.out | exact H6.out.drewN _ | exact (H6.out.drewN _).drewN _)).mono ?_); rintro e w5 ⟨rfl, h5⟩; obtain ⟨V7, h5⟩ := h5; have H7 := Aside0.mk h5; clear h5) | (go_at_call 13; (with_reducible refine (word_calls w _ w.heap.size A0 c0 b at_ row op base only text _ l (by first | exact H7.out | exact H7.out.drewN _ | exact (H7.out.drewN _).drewN _) HB.out K.out.b0 (by omega) h0 c1 k1 k2 (by omega) k5 (by omega)).mono ?_); rintro e w5 ⟨rfl, h5⟩; obtain ⟨V9, h5⟩ := h5; have H9 := Aside0.mk h5; clear h5))
                    go_roundg m
                    case measure => omega
                    case rel => exact ⟨wordS b (⟨at_, row, op, base, only, text, l⟩ : RSt), HL2, ⟨⟨_, H9.out⟩⟩⟩
            · have e1 : decide (at_ < (b.length : Int)) = false := decide_eq_false c1
              rw [if_neg c1] at HL
              obtain rfl := Option.some.inj HL
              clear HL
              go_wp2
              go_ret
              exact ⟨_, rfl, (show Kd.R k48 48 _ w.heap.size (fun _ => True) V l from by first | exact H.out.r | exact (H.out.drewN _).r), by first | exact H.out.B | exact (H.out.drewN _).B⟩
          · rw [if_neg ok] at HL
            cases HL
    · rw [if_neg hb] at h
      cases h

end Go.Proofs.Ytagjfcogbnhmgaa.Rf
