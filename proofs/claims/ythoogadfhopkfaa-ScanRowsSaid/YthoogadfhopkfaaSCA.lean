/- The scanner's function that finds a plain text's end. -/
import Derived.Test.YthoogadfhopkfaaSM2
import Derived.Test.YthoogadfhopkfaaQrunes
import Derived.StillTailTactics
namespace Go.Proofs.Ythoogadfhopkfaa.Sc
open Go.RowKit Go.Proofs.Ythoogadfhopkfaa.Q Go.Proofs.YthoogadfhopkfaaW.PrintWords Go.Proofs.YthoogadfhopkfaaW.PrintLast Go.Proofs.YthoogadfhopkfaaW.PrintMore
attribute [local go_sem] max2_int min2_int max_two min_two max_three min_three max_four min_four
set_option linter.unusedVariables false
set_option linter.unusedSimpArgs false
set_option maxHeartbeats 1000000
set_option maxRecDepth 100000

theorem dec_w (s : ByteArray) (i : Nat) : (Utf8.decode s i).2 ≤ 4 := by
  simp only [Utf8.decode]
  repeat' split
  all_goals simp
theorem nxt_range (b : List Int) (i e : Int) : 0 ≤ (nxt b i e).2 ∧ (nxt b i e).2 ≤ 4 := by
  unfold nxt nextS
  have := dec_w (strOfNums ((cut b i e).take 4)) 0
  split
  · simp
  · dsimp only; omega
theorem SQ.below {W : World} {g : Nat} {A0 : Option Addr} {c0 : Nat} {b : List Int} {at_ : Int} {V : Value} {op row base : Int} {dash : Bool} {W1 : World} (h : SQ W g A0 c0 b at_ V op row base dash) (hb : Below W.heap.size W W1) : SQ W1 g A0 c0 b at_ V op row base dash := ⟨blk_below h.blk hb, Kd.C_below h.C hb, h.cap, h.len⟩
theorem reads_heap {α : Type} {enc : α → Value} {d : α} {w w' : World} {A : Option Addr} {n : Nat} {xs : List α} (h : ReadsOf enc d w A n xs) (e : w'.heap = w.heap) : ReadsOf enc d w' A n xs :=
  ⟨h.1, h.2.1, fun hn => by
    obtain ⟨ad, e1, hc⟩ := h.2.2 hn
    exact ⟨ad, e1, fun j hj => by have := hc j hj; unfold World.cell? at this ⊢; rw [e]; exact this⟩⟩
theorem plain_calls (W : World) (g : Nat) (A0 : Option Addr) (c0 : Nat) (b : List Int) (at_ : Int) (V : Value) (op row base : Int) (dash : Bool) (hs : SQ W g A0 c0 b at_ V op row base dash) (h0 : 0 ≤ at_) (h1 : at_ < (b.length : Int)) :
    Calls Try.prog 47 #[.pointer (some ⟨g, 0, none⟩)] W fun e w' => e = .returned (.int .i64 (plain b op at_)) ∧ Below W.heap.size W w' := by
  have H := Aside0.mk hs
  have hc0 := hs.cell0
  have hc1 := hs.cell1
  have hc3 := hs.cell3
  have hl := hs.len
  clear hs
  have hle := upto_le (n := (b.length : Int)) (i := at_) (p := fun j => brk b j == 0) (Int.le_of_lt h1)
  have e0 : at_ ≤ line b at_ := hle.1
  have e1 : line b at_ ≤ (b.length : Int) := hle.2
  clear hle
  have LN := Aside0.mk (fun (hq : SQ W g A0 c0 b at_ V op row base dash) => line_calls W g A0 c0 b at_ V op row base dash hq at_ h0 (Int.le_of_lt h1))
  have hR : plain b op at_ = plGo b op at_ (line b at_) (strOfNums (cut b at_ (line b at_))) (strOfNums (cut b at_ (line b at_))).size 0 at_ false := rfl
  obtain ⟨i0, hi0, _, hsz, _⟩ := info_parts (P := Try.prog) info5
  obtain ⟨A1, hcut, hA, hcap⟩ := print_mid_of (P := Try.prog) (Value.int .u8) (0 : Int) 23 5 .i64 .i64 Try.underlying23 hi0 hsz A0 c0 b at_ (line b at_) h0 e0 e1 H.out.cap
  have hcv : ∀ w' : World, w'.heap = W.heap → (convert 23 9 (.slice A1 ((b.take (line b at_).toNat).drop at_.toNat).length (c0 - at_.toNat))).run Try.prog w' = .ok (.string (strOfNums ((b.take (line b at_).toNat).drop at_.toNat))) w' := fun w' hw' => Kd.C_string Try.underlying23 Try.underlying5 Try.underlying9 (Kd.C_of_reads (h1 := fun _ => rfl) (hA w' (reads_heap (Kd.reads_of_C H.out.C) hw')))
  clear hA hcap
  have hss : ((strOfNums (cut b at_ (line b at_))).size : Int) = line b at_ - at_ := by
    simp only [strOfNums, cut, ByteArray.size, List.size_toArray, List.length_map, List.length_drop, List.length_take]
    omega
  unfold cut at hR hss
  generalize hcu : (b.take (line b at_).toNat).drop at_.toNat = xs at *
  have HXS := Aside0.mk hcu
  clear hcu
  generalize strOfNums xs = s at *
  generalize plain b op at_ = R at *
  have HR := Aside0.mk hR
  have HSS := Aside0.mk hss
  clear hR hss
  generalize line b at_ = e at *
  go_enter Try.func47, Try.ntmps47
  go_wp2
  go_step3
  go_wp2_with (first | (go_at_call 37; (with_reducible refine (LN.out H.out).mono ?_); rintro e w1 ⟨rfl, n1, rfl⟩))
  go_step3
  go_wp2
  have H1 : Aside0 (SQ (W.drewN n1) g A0 c0 b at_ V op row base dash) := ⟨H.out.drewN n1⟩
  have HB : Aside0 (Below W.heap.size W (W.drewN n1)) := ⟨pw_below_drewN (Below.refl _ _) n1⟩
  have hcv1 : (convert 23 9 (.slice A1 xs.length (c0 - at_.toNat))).run Try.prog (W.drewN n1).drew = .ok (.string s) (W.drewN n1).drew := hcv _ rfl
  generalize W.drewN n1 = w1 at *
  clear hcv hc0 hc1 hc3
  have hc0 := H1.out.cell0
  have hc1 := H1.out.cell1
  have hc3 := H1.out.cell3
  go_still_tail 11, (by kernel_rfl)
  (with_reducible refine gate_dst (N := 36) rfl ?_)
  refine iter_event ?hg (N := 36) ?hd (s := s) ?hr ?_; (case hd => rfl); (case hg => rfl); (case hr => first | (go_simp; done) | (go_simp; rfl))
  intro G hG w2 hit hb2
  have hG2 : G = w1.heap.size := hG
  have HB2 : Aside0 (Below W.heap.size W w2) := ⟨below_step (below_drew HB.out) hb2⟩
  have HG : Aside0 (W.heap.size ≤ G) := ⟨by rw [hG2]; exact HB.out.size⟩
  have HIT : Aside0 (w2.heap[G]? = some (.stringIter s (0 : Int).toNat)) := ⟨hit⟩
  clear hG hit hb2 hcv1 hcut hc0 hc1 hc3 H1 HB hG2
  go_wp2
  go_frame
  go_loopg [4, 5] s.size (fun kq v4 v5 wq => ∃ (t p : Int) (bl : Bool), v4 = .int .i64 t ∧ v5 = .bool bl ∧ Aside0 (0 ≤ p ∧ p ≤ (s.size : Int) ∧ plGo b op at_ e s kq p t bl = R ∧ (s.size : Int) - p ≤ kq) ∧ Aside0 (wq.heap[G]? = some (.stringIter s p.toNat)) ∧ Aside0 (Below W.heap.size W wq))
  case atStart => exact ⟨at_, 0, false, rfl, rfl, ⟨⟨Int.le_refl _, by omega, HR.out.symm, by omega⟩⟩, HIT, HB2⟩
  case round =>
    clear HIT HB2
    obtain ⟨t, p, bl, rfl, rfl, HX, HIT, HB⟩ := hrel
    have hp0 := HX.out.1
    have hp1 := HX.out.2.1
    by_cases hp : p < (s.size : Int)
    · obtain ⟨A2, hcut2, hA2, hcap2⟩ := print_mid_of (P := Try.prog) (Value.int .u8) (0 : Int) 23 5 .i64 .i64 Try.underlying23 hi0 hsz A0 c0 b (at_ + p) e (by omega) (by have := HSS.out; omega) e1 H.out.cap
      have NC : Aside0 (∀ w' : World, Below W.heap.size W w' → Kd.C (Kd.int .u8) w' A2 ((b.take e.toNat).drop (at_ + p).toNat).length ((b.take e.toNat).drop (at_ + p).toNat)) := ⟨fun w' hb => Kd.C_of_reads (h1 := fun _ => rfl) (hA2 w' (Kd.reads_of_C (Kd.C_below H.out.C hb)))⟩
      have hlen : 0 < ((b.take e.toNat).drop (at_ + p).toNat).length := by rw [List.length_drop, List.length_take]; have := HSS.out; omega
      have HF0 : runes_Next.f ((b.take e.toNat).drop (at_ + p).toNat) = some (nxt b (at_ + p) e) := by unfold runes_Next.f; rw [if_neg (by omega)]; rfl
      have hnr := nxt_range b (at_ + p) e
      generalize hys : (b.take e.toNat).drop (at_ + p).toNat = ys at *
      clear hys hlen hA2
      have HCAP := Aside0.mk hcap2
      obtain ⟨m, rfl⟩ : ∃ m, gk = m + 1 := ⟨gk - 1, by have := HX.out.2.2.2; omega⟩
      have HS := HX.out.2.2.1
      simp only [plGo] at HS
      rw [if_pos hp] at HS
      generalize nxt b (at_ + p) e = r at *
      obtain ⟨r1, r2⟩ := r
      have HF := Aside0.mk HF0
      have HM := Aside0.mk HX.out.2.2.2
      clear HF0 hcap2 HX
      have hs0 := HSS.out
      dsimp only at HS hnr
      have hr2 := hnr.1
      have hr3 := hnr.2
      have hdl := dec_le_size s p.toNat (by omega)
      have hdw := Lib.decode_width_pos s p.toNat (by omega)
      have hq0 : p < rdNext s p := by unfold rdNext; omega
      have hq1 : rdNext s p ≤ (s.size : Int) := by unfold rdNext; omega
      have hc0_ : 0 ≤ rdRune s p := by unfold rdRune; omega
      have hc1_ : rdRune s p ≤ 2147483647 := by unfold rdRune; have := decode_le s p.toNat; omega
      clear hdl hdw hnr
      have hb0 : 0 ≤ p := hp0
      have hb1 : p ≤ 16384 := by omega
      have HP := Aside0.mk (And.intro hp0 hp)
      by_cases p0 : p > 0
      · have fp0 : decide (p > 0) = true := decide_eq_true p0
        by_cases r0 : r1 < 0
        · have fr0 : decide (r1 < 0) = true := decide_eq_true r0
          rw [if_pos ⟨p0, .inl r0⟩] at HS
          have HS2 := Aside0.mk HS
          clear HS hp0 hp1 hp p0 r0
          go_wp2_with (first | ((with_reducible refine gate_dst (N := 37) rfl ?_); refine next_event ?hg (N := 37) ?hd ?ho (x := .tmp 36) (g := G) (s := s) (p := p) ?hx HIT.out HP.out.1 HP.out.2 ?_; (case hd => rfl); (case hg => rfl); (case ho => rfl); (case hx => rfl); intro w3 hit3 hg3; have HB3 := Aside0.mk (pw_below_grown HB.out (some G) HB.out.size hg3 (fun k hk => by cases hk; exact HG.out)); have HIT3 := Aside0.mk hit3; have HQ3 := Aside0.mk (H.out.below HB3.out); have gc0 := HQ3.out.cell0; have gc1 := HQ3.out.cell1; have gc3 := HQ3.out.cell3; clear hit3 hg3) | (go_at_call 46; (with_reducible refine (runes_Next.calls A2 (c0 - (at_ + p).toNat) ys r1 r2 _ (NC.out _ HB3.out) HCAP.out HF.out).mono ?_); rintro e' w4 ⟨rfl, hb4⟩; have HB4 := Aside0.mk (below_step HB3.out hb4); have HIT4 := Aside0.mk (blk_below HIT3.out hb4); have HQ4 := Aside0.mk (H.out.below HB4.out); have kc0 := HQ4.out.cell0; have kc1 := HQ4.out.cell1; have kc3 := HQ4.out.cell3; clear hb4) | (go_at_call 40; (with_reducible refine (colon_calls _ g _ c0 b at_ V op row base dash (by first | exact HQ4.out | exact HQ4.out.drewN _) (at_ + p) (by omega) (by omega)).mono ?_); rintro e' w5 ⟨rfl, n5, rfl⟩) | (go_at_call 63; (with_reducible refine (flow_calls _ _).mono ?_); rintro e' w5 ⟨rfl, n5, rfl⟩))
          try rw [Exit.noGoto_ret]
          go_ret
          exact ⟨by rw [← HS2.out]; rfl, by first | exact HB4.out | exact below_then HB4.out HB4.out.size (pw_below_drewN (Below.refl _ _) _)⟩
        · have fr0 : decide (r1 < 0) = false := decide_eq_false r0
          by_cases co : colon b op (at_ + p) = true
          · rw [if_pos ⟨p0, .inr (.inl co)⟩] at HS
            have HS2 := Aside0.mk HS
            clear HS hp0 hp1 hp p0 r0
            go_wp2_with (first | ((with_reducible refine gate_dst (N := 37) rfl ?_); refine next_event ?hg (N := 37) ?hd ?ho (x := .tmp 36) (g := G) (s := s) (p := p) ?hx HIT.out HP.out.1 HP.out.2 ?_; (case hd => rfl); (case hg => rfl); (case ho => rfl); (case hx => rfl); intro w3 hit3 hg3; have HB3 := Aside0.mk (pw_below_grown HB.out (some G) HB.out.size hg3 (fun k hk => by cases hk; exact HG.out)); have HIT3 := Aside0.mk hit3; have HQ3 := Aside0.mk (H.out.below HB3.out); have gc0 := HQ3.out.cell0; have gc1 := HQ3.out.cell1; have gc3 := HQ3.out.cell3; clear hit3 hg3) | (go_at_call 46; (with_reducible refine (runes_Next.calls A2 (c0 - (at_ + p).toNat) ys r1 r2 _ (NC.out _ HB3.out) HCAP.out HF.out).mono ?_); rintro e' w4 ⟨rfl, hb4⟩; have HB4 := Aside0.mk (below_step HB3.out hb4); have HIT4 := Aside0.mk (blk_below HIT3.out hb4); have HQ4 := Aside0.mk (H.out.below HB4.out); have kc0 := HQ4.out.cell0; have kc1 := HQ4.out.cell1; have kc3 := HQ4.out.cell3; clear hb4) | (go_at_call 40; (with_reducible refine (colon_calls _ g _ c0 b at_ V op row base dash (by first | exact HQ4.out | exact HQ4.out.drewN _) (at_ + p) (by omega) (by omega)).mono ?_); rintro e' w5 ⟨rfl, n5, rfl⟩) | (go_at_call 63; (with_reducible refine (flow_calls _ _).mono ?_); rintro e' w5 ⟨rfl, n5, rfl⟩))
            try rw [Exit.noGoto_ret]
            go_ret
            exact ⟨by rw [← HS2.out]; rfl, by first | exact HB4.out | exact below_then HB4.out HB4.out.size (pw_below_drewN (Below.refl _ _) _)⟩
          · have fco : colon b op (at_ + p) = false := by simpa using co
            by_cases c5 : rdRune s p = 35
            · have f35 : (rdRune s p == 35) = true := beq_iff_eq.mpr c5
              cases bl
              · by_cases o : op > 0
                · have fo : decide (op > 0) = true := decide_eq_true o
                  by_cases l : rdRune s p < 128
                  · have fl : decide (rdRune s p < 128) = true := decide_eq_true l
                    by_cases w_ : flow (rdRune s p % 256) = true
                    · rw [if_neg (fun h => h.2.elim r0 (fun h => h.elim co (fun h => Bool.false_ne_true h.2))), if_pos ⟨p0, o, l, w_⟩] at HS
                      have HS2 := Aside0.mk HS
                      clear HS hp0 hp1 hp p0 r0 co c5 o l
                      go_wp2_with (first | ((with_reducible refine gate_dst (N := 37) rfl ?_); refine next_event ?hg (N := 37) ?hd ?ho (x := .tmp 36) (g := G) (s := s) (p := p) ?hx HIT.out HP.out.1 HP.out.2 ?_; (case hd => rfl); (case hg => rfl); (case ho => rfl); (case hx => rfl); intro w3 hit3 hg3; have HB3 := Aside0.mk (pw_below_grown HB.out (some G) HB.out.size hg3 (fun k hk => by cases hk; exact HG.out)); have HIT3 := Aside0.mk hit3; have HQ3 := Aside0.mk (H.out.below HB3.out); have gc0 := HQ3.out.cell0; have gc1 := HQ3.out.cell1; have gc3 := HQ3.out.cell3; clear hit3 hg3) | (go_at_call 46; (with_reducible refine (runes_Next.calls A2 (c0 - (at_ + p).toNat) ys r1 r2 _ (NC.out _ HB3.out) HCAP.out HF.out).mono ?_); rintro e' w4 ⟨rfl, hb4⟩; have HB4 := Aside0.mk (below_step HB3.out hb4); have HIT4 := Aside0.mk (blk_below HIT3.out hb4); have HQ4 := Aside0.mk (H.out.below HB4.out); have kc0 := HQ4.out.cell0; have kc1 := HQ4.out.cell1; have kc3 := HQ4.out.cell3; clear hb4) | (go_at_call 40; (with_reducible refine (colon_calls _ g _ c0 b at_ V op row base dash (by first | exact HQ4.out | exact HQ4.out.drewN _) (at_ + p) (by omega) (by omega)).mono ?_); rintro e' w5 ⟨rfl, n5, rfl⟩) | (go_at_call 63; (with_reducible refine (flow_calls _ _).mono ?_); rintro e' w5 ⟨rfl, n5, rfl⟩))
                      try rw [Exit.noGoto_ret]
                      go_ret
                      exact ⟨by rw [← HS2.out]; rfl, by first | exact HB4.out | exact below_then HB4.out HB4.out.size (pw_below_drewN (Below.refl _ _) _)⟩
                    · have NW := w_
                      replace w_ : flow (rdRune s p % 256) = false := by simpa using w_
                      rw [if_neg (fun h => h.2.elim r0 (fun h => h.elim co (fun h => Bool.false_ne_true h.2))), if_neg (fun h => NW h.2.2.2)] at HS
                      rcases (by omega : rdRune s p = 32 ∨ rdRune s p = 9 ∨ (rdRune s p ≠ 32 ∧ rdRune s p ≠ 9)) with d | d | d
                      · have f32 : (rdRune s p == 32) = true := beq_iff_eq.mpr d
                        have f9 : (rdRune s p == 9) = false := beq_eq_false_iff_ne.mpr (by omega)
                        rw [if_pos (.inl d)] at HS
                        rw [show (rdRune s p == 32 || rdRune s p == 9) = true by rw [f32, f9]; rfl] at HS
                        have HS2 := Aside0.mk HS
                        clear HS hp0 hp1 hp p0 r0 co c5 NW o l d
                        go_wp2_with (first | ((with_reducible refine gate_dst (N := 37) rfl ?_); refine next_event ?hg (N := 37) ?hd ?ho (x := .tmp 36) (g := G) (s := s) (p := p) ?hx HIT.out HP.out.1 HP.out.2 ?_; (case hd => rfl); (case hg => rfl); (case ho => rfl); (case hx => rfl); intro w3 hit3 hg3; have HB3 := Aside0.mk (pw_below_grown HB.out (some G) HB.out.size hg3 (fun k hk => by cases hk; exact HG.out)); have HIT3 := Aside0.mk hit3; have HQ3 := Aside0.mk (H.out.below HB3.out); have gc0 := HQ3.out.cell0; have gc1 := HQ3.out.cell1; have gc3 := HQ3.out.cell3; clear hit3 hg3) | (go_at_call 46; (with_reducible refine (runes_Next.calls A2 (c0 - (at_ + p).toNat) ys r1 r2 _ (NC.out _ HB3.out) HCAP.out HF.out).mono ?_); rintro e' w4 ⟨rfl, hb4⟩; have HB4 := Aside0.mk (below_step HB3.out hb4); have HIT4 := Aside0.mk (blk_below HIT3.out hb4); have HQ4 := Aside0.mk (H.out.below HB4.out); have kc0 := HQ4.out.cell0; have kc1 := HQ4.out.cell1; have kc3 := HQ4.out.cell3; clear hb4) | (go_at_call 40; (with_reducible refine (colon_calls _ g _ c0 b at_ V op row base dash (by first | exact HQ4.out | exact HQ4.out.drewN _) (at_ + p) (by omega) (by omega)).mono ?_); rintro e' w5 ⟨rfl, n5, rfl⟩) | (go_at_call 63; (with_reducible refine (flow_calls _ _).mono ?_); rintro e' w5 ⟨rfl, n5, rfl⟩))
                        go_roundg m
                        case measure => omega
                        case rel => exact ⟨_, rdNext s p, _, rfl, rfl, ⟨⟨by have := HP.out.1; omega, hq1, HS2.out, by have := HM.out; have := HP.out.2; omega⟩⟩, ⟨by first | exact HIT4.out | exact blk_below HIT4.out (pw_below_drewN (Below.refl _ _) _)⟩, ⟨by first | exact HB4.out | exact below_then HB4.out HB4.out.size (pw_below_drewN (Below.refl _ _) _)⟩⟩
                      · have f32 : (rdRune s p == 32) = false := beq_eq_false_iff_ne.mpr (by omega)
                        have f9 : (rdRune s p == 9) = true := beq_iff_eq.mpr d
                        rw [if_pos (.inr d)] at HS
                        rw [show (rdRune s p == 32 || rdRune s p == 9) = true by rw [f32, f9]; rfl] at HS
                        have HS2 := Aside0.mk HS
                        clear HS hp0 hp1 hp p0 r0 co c5 NW o l d
                        go_wp2_with (first | ((with_reducible refine gate_dst (N := 37) rfl ?_); refine next_event ?hg (N := 37) ?hd ?ho (x := .tmp 36) (g := G) (s := s) (p := p) ?hx HIT.out HP.out.1 HP.out.2 ?_; (case hd => rfl); (case hg => rfl); (case ho => rfl); (case hx => rfl); intro w3 hit3 hg3; have HB3 := Aside0.mk (pw_below_grown HB.out (some G) HB.out.size hg3 (fun k hk => by cases hk; exact HG.out)); have HIT3 := Aside0.mk hit3; have HQ3 := Aside0.mk (H.out.below HB3.out); have gc0 := HQ3.out.cell0; have gc1 := HQ3.out.cell1; have gc3 := HQ3.out.cell3; clear hit3 hg3) | (go_at_call 46; (with_reducible refine (runes_Next.calls A2 (c0 - (at_ + p).toNat) ys r1 r2 _ (NC.out _ HB3.out) HCAP.out HF.out).mono ?_); rintro e' w4 ⟨rfl, hb4⟩; have HB4 := Aside0.mk (below_step HB3.out hb4); have HIT4 := Aside0.mk (blk_below HIT3.out hb4); have HQ4 := Aside0.mk (H.out.below HB4.out); have kc0 := HQ4.out.cell0; have kc1 := HQ4.out.cell1; have kc3 := HQ4.out.cell3; clear hb4) | (go_at_call 40; (with_reducible refine (colon_calls _ g _ c0 b at_ V op row base dash (by first | exact HQ4.out | exact HQ4.out.drewN _) (at_ + p) (by omega) (by omega)).mono ?_); rintro e' w5 ⟨rfl, n5, rfl⟩) | (go_at_call 63; (with_reducible refine (flow_calls _ _).mono ?_); rintro e' w5 ⟨rfl, n5, rfl⟩))
                        go_roundg m
                        case measure => omega
                        case rel => exact ⟨_, rdNext s p, _, rfl, rfl, ⟨⟨by have := HP.out.1; omega, hq1, HS2.out, by have := HM.out; have := HP.out.2; omega⟩⟩, ⟨by first | exact HIT4.out | exact blk_below HIT4.out (pw_below_drewN (Below.refl _ _) _)⟩, ⟨by first | exact HB4.out | exact below_then HB4.out HB4.out.size (pw_below_drewN (Below.refl _ _) _)⟩⟩
                      · have f32 : (rdRune s p == 32) = false := beq_eq_false_iff_ne.mpr (by omega)
                        have f9 : (rdRune s p == 9) = false := beq_eq_false_iff_ne.mpr (by omega)
                        rw [if_neg (fun h => h.elim d.1 d.2)] at HS
                        rw [show (rdRune s p == 32 || rdRune s p == 9) = false by rw [f32, f9]; rfl] at HS
                        have HS2 := Aside0.mk HS
                        clear HS hp0 hp1 hp p0 r0 co c5 NW o l d
                        go_wp2_with (first | ((with_reducible refine gate_dst (N := 37) rfl ?_); refine next_event ?hg (N := 37) ?hd ?ho (x := .tmp 36) (g := G) (s := s) (p := p) ?hx HIT.out HP.out.1 HP.out.2 ?_; (case hd => rfl); (case hg => rfl); (case ho => rfl); (case hx => rfl); intro w3 hit3 hg3; have HB3 := Aside0.mk (pw_below_grown HB.out (some G) HB.out.size hg3 (fun k hk => by cases hk; exact HG.out)); have HIT3 := Aside0.mk hit3; have HQ3 := Aside0.mk (H.out.below HB3.out); have gc0 := HQ3.out.cell0; have gc1 := HQ3.out.cell1; have gc3 := HQ3.out.cell3; clear hit3 hg3) | (go_at_call 46; (with_reducible refine (runes_Next.calls A2 (c0 - (at_ + p).toNat) ys r1 r2 _ (NC.out _ HB3.out) HCAP.out HF.out).mono ?_); rintro e' w4 ⟨rfl, hb4⟩; have HB4 := Aside0.mk (below_step HB3.out hb4); have HIT4 := Aside0.mk (blk_below HIT3.out hb4); have HQ4 := Aside0.mk (H.out.below HB4.out); have kc0 := HQ4.out.cell0; have kc1 := HQ4.out.cell1; have kc3 := HQ4.out.cell3; clear hb4) | (go_at_call 40; (with_reducible refine (colon_calls _ g _ c0 b at_ V op row base dash (by first | exact HQ4.out | exact HQ4.out.drewN _) (at_ + p) (by omega) (by omega)).mono ?_); rintro e' w5 ⟨rfl, n5, rfl⟩) | (go_at_call 63; (with_reducible refine (flow_calls _ _).mono ?_); rintro e' w5 ⟨rfl, n5, rfl⟩))
                        go_roundg m
                        case measure => omega
                        case rel => exact ⟨_, rdNext s p, _, rfl, rfl, ⟨⟨by have := HP.out.1; omega, hq1, HS2.out, by have := HM.out; have := HP.out.2; omega⟩⟩, ⟨by first | exact HIT4.out | exact blk_below HIT4.out (pw_below_drewN (Below.refl _ _) _)⟩, ⟨by first | exact HB4.out | exact below_then HB4.out HB4.out.size (pw_below_drewN (Below.refl _ _) _)⟩⟩
                  · have fl : decide (rdRune s p < 128) = false := decide_eq_false l
                    rw [if_neg (fun h => h.2.elim r0 (fun h => h.elim co (fun h => Bool.false_ne_true h.2))), if_neg (fun h => l h.2.2.1)] at HS
                    rcases (by omega : rdRune s p = 32 ∨ rdRune s p = 9 ∨ (rdRune s p ≠ 32 ∧ rdRune s p ≠ 9)) with d | d | d
                    · have f32 : (rdRune s p == 32) = true := beq_iff_eq.mpr d
                      have f9 : (rdRune s p == 9) = false := beq_eq_false_iff_ne.mpr (by omega)
                      rw [if_pos (.inl d)] at HS
                      rw [show (rdRune s p == 32 || rdRune s p == 9) = true by rw [f32, f9]; rfl] at HS
                      have HS2 := Aside0.mk HS
                      clear HS hp0 hp1 hp p0 r0 co c5 o l d
                      go_wp2_with (first | ((with_reducible refine gate_dst (N := 37) rfl ?_); refine next_event ?hg (N := 37) ?hd ?ho (x := .tmp 36) (g := G) (s := s) (p := p) ?hx HIT.out HP.out.1 HP.out.2 ?_; (case hd => rfl); (case hg => rfl); (case ho => rfl); (case hx => rfl); intro w3 hit3 hg3; have HB3 := Aside0.mk (pw_below_grown HB.out (some G) HB.out.size hg3 (fun k hk => by cases hk; exact HG.out)); have HIT3 := Aside0.mk hit3; have HQ3 := Aside0.mk (H.out.below HB3.out); have gc0 := HQ3.out.cell0; have gc1 := HQ3.out.cell1; have gc3 := HQ3.out.cell3; clear hit3 hg3) | (go_at_call 46; (with_reducible refine (runes_Next.calls A2 (c0 - (at_ + p).toNat) ys r1 r2 _ (NC.out _ HB3.out) HCAP.out HF.out).mono ?_); rintro e' w4 ⟨rfl, hb4⟩; have HB4 := Aside0.mk (below_step HB3.out hb4); have HIT4 := Aside0.mk (blk_below HIT3.out hb4); have HQ4 := Aside0.mk (H.out.below HB4.out); have kc0 := HQ4.out.cell0; have kc1 := HQ4.out.cell1; have kc3 := HQ4.out.cell3; clear hb4) | (go_at_call 40; (with_reducible refine (colon_calls _ g _ c0 b at_ V op row base dash (by first | exact HQ4.out | exact HQ4.out.drewN _) (at_ + p) (by omega) (by omega)).mono ?_); rintro e' w5 ⟨rfl, n5, rfl⟩) | (go_at_call 63; (with_reducible refine (flow_calls _ _).mono ?_); rintro e' w5 ⟨rfl, n5, rfl⟩))
                      go_roundg m
                      case measure => omega
                      case rel => exact ⟨_, rdNext s p, _, rfl, rfl, ⟨⟨by have := HP.out.1; omega, hq1, HS2.out, by have := HM.out; have := HP.out.2; omega⟩⟩, ⟨by first | exact HIT4.out | exact blk_below HIT4.out (pw_below_drewN (Below.refl _ _) _)⟩, ⟨by first | exact HB4.out | exact below_then HB4.out HB4.out.size (pw_below_drewN (Below.refl _ _) _)⟩⟩
                    · have f32 : (rdRune s p == 32) = false := beq_eq_false_iff_ne.mpr (by omega)
                      have f9 : (rdRune s p == 9) = true := beq_iff_eq.mpr d
                      rw [if_pos (.inr d)] at HS
                      rw [show (rdRune s p == 32 || rdRune s p == 9) = true by rw [f32, f9]; rfl] at HS
                      have HS2 := Aside0.mk HS
                      clear HS hp0 hp1 hp p0 r0 co c5 o l d
                      go_wp2_with (first | ((with_reducible refine gate_dst (N := 37) rfl ?_); refine next_event ?hg (N := 37) ?hd ?ho (x := .tmp 36) (g := G) (s := s) (p := p) ?hx HIT.out HP.out.1 HP.out.2 ?_; (case hd => rfl); (case hg => rfl); (case ho => rfl); (case hx => rfl); intro w3 hit3 hg3; have HB3 := Aside0.mk (pw_below_grown HB.out (some G) HB.out.size hg3 (fun k hk => by cases hk; exact HG.out)); have HIT3 := Aside0.mk hit3; have HQ3 := Aside0.mk (H.out.below HB3.out); have gc0 := HQ3.out.cell0; have gc1 := HQ3.out.cell1; have gc3 := HQ3.out.cell3; clear hit3 hg3) | (go_at_call 46; (with_reducible refine (runes_Next.calls A2 (c0 - (at_ + p).toNat) ys r1 r2 _ (NC.out _ HB3.out) HCAP.out HF.out).mono ?_); rintro e' w4 ⟨rfl, hb4⟩; have HB4 := Aside0.mk (below_step HB3.out hb4); have HIT4 := Aside0.mk (blk_below HIT3.out hb4); have HQ4 := Aside0.mk (H.out.below HB4.out); have kc0 := HQ4.out.cell0; have kc1 := HQ4.out.cell1; have kc3 := HQ4.out.cell3; clear hb4) | (go_at_call 40; (with_reducible refine (colon_calls _ g _ c0 b at_ V op row base dash (by first | exact HQ4.out | exact HQ4.out.drewN _) (at_ + p) (by omega) (by omega)).mono ?_); rintro e' w5 ⟨rfl, n5, rfl⟩) | (go_at_call 63; (with_reducible refine (flow_calls _ _).mono ?_); rintro e' w5 ⟨rfl, n5, rfl⟩))
                      go_roundg m
                      case measure => omega
                      case rel => exact ⟨_, rdNext s p, _, rfl, rfl, ⟨⟨by have := HP.out.1; omega, hq1, HS2.out, by have := HM.out; have := HP.out.2; omega⟩⟩, ⟨by first | exact HIT4.out | exact blk_below HIT4.out (pw_below_drewN (Below.refl _ _) _)⟩, ⟨by first | exact HB4.out | exact below_then HB4.out HB4.out.size (pw_below_drewN (Below.refl _ _) _)⟩⟩
                    · have f32 : (rdRune s p == 32) = false := beq_eq_false_iff_ne.mpr (by omega)
                      have f9 : (rdRune s p == 9) = false := beq_eq_false_iff_ne.mpr (by omega)
                      rw [if_neg (fun h => h.elim d.1 d.2)] at HS
                      rw [show (rdRune s p == 32 || rdRune s p == 9) = false by rw [f32, f9]; rfl] at HS
                      have HS2 := Aside0.mk HS
                      clear HS hp0 hp1 hp p0 r0 co c5 o l d
                      go_wp2_with (first | ((with_reducible refine gate_dst (N := 37) rfl ?_); refine next_event ?hg (N := 37) ?hd ?ho (x := .tmp 36) (g := G) (s := s) (p := p) ?hx HIT.out HP.out.1 HP.out.2 ?_; (case hd => rfl); (case hg => rfl); (case ho => rfl); (case hx => rfl); intro w3 hit3 hg3; have HB3 := Aside0.mk (pw_below_grown HB.out (some G) HB.out.size hg3 (fun k hk => by cases hk; exact HG.out)); have HIT3 := Aside0.mk hit3; have HQ3 := Aside0.mk (H.out.below HB3.out); have gc0 := HQ3.out.cell0; have gc1 := HQ3.out.cell1; have gc3 := HQ3.out.cell3; clear hit3 hg3) | (go_at_call 46; (with_reducible refine (runes_Next.calls A2 (c0 - (at_ + p).toNat) ys r1 r2 _ (NC.out _ HB3.out) HCAP.out HF.out).mono ?_); rintro e' w4 ⟨rfl, hb4⟩; have HB4 := Aside0.mk (below_step HB3.out hb4); have HIT4 := Aside0.mk (blk_below HIT3.out hb4); have HQ4 := Aside0.mk (H.out.below HB4.out); have kc0 := HQ4.out.cell0; have kc1 := HQ4.out.cell1; have kc3 := HQ4.out.cell3; clear hb4) | (go_at_call 40; (with_reducible refine (colon_calls _ g _ c0 b at_ V op row base dash (by first | exact HQ4.out | exact HQ4.out.drewN _) (at_ + p) (by omega) (by omega)).mono ?_); rintro e' w5 ⟨rfl, n5, rfl⟩) | (go_at_call 63; (with_reducible refine (flow_calls _ _).mono ?_); rintro e' w5 ⟨rfl, n5, rfl⟩))
                      go_roundg m
                      case measure => omega
                      case rel => exact ⟨_, rdNext s p, _, rfl, rfl, ⟨⟨by have := HP.out.1; omega, hq1, HS2.out, by have := HM.out; have := HP.out.2; omega⟩⟩, ⟨by first | exact HIT4.out | exact blk_below HIT4.out (pw_below_drewN (Below.refl _ _) _)⟩, ⟨by first | exact HB4.out | exact below_then HB4.out HB4.out.size (pw_below_drewN (Below.refl _ _) _)⟩⟩
                · have fo : decide (op > 0) = false := decide_eq_false o
                  rw [if_neg (fun h => h.2.elim r0 (fun h => h.elim co (fun h => Bool.false_ne_true h.2))), if_neg (fun h => o h.2.1)] at HS
                  rcases (by omega : rdRune s p = 32 ∨ rdRune s p = 9 ∨ (rdRune s p ≠ 32 ∧ rdRune s p ≠ 9)) with d | d | d
                  · have f32 : (rdRune s p == 32) = true := beq_iff_eq.mpr d
                    have f9 : (rdRune s p == 9) = false := beq_eq_false_iff_ne.mpr (by omega)
                    rw [if_pos (.inl d)] at HS
                    rw [show (rdRune s p == 32 || rdRune s p == 9) = true by rw [f32, f9]; rfl] at HS
                    have HS2 := Aside0.mk HS
                    clear HS hp0 hp1 hp p0 r0 co c5 o d
                    go_wp2_with (first | ((with_reducible refine gate_dst (N := 37) rfl ?_); refine next_event ?hg (N := 37) ?hd ?ho (x := .tmp 36) (g := G) (s := s) (p := p) ?hx HIT.out HP.out.1 HP.out.2 ?_; (case hd => rfl); (case hg => rfl); (case ho => rfl); (case hx => rfl); intro w3 hit3 hg3; have HB3 := Aside0.mk (pw_below_grown HB.out (some G) HB.out.size hg3 (fun k hk => by cases hk; exact HG.out)); have HIT3 := Aside0.mk hit3; have HQ3 := Aside0.mk (H.out.below HB3.out); have gc0 := HQ3.out.cell0; have gc1 := HQ3.out.cell1; have gc3 := HQ3.out.cell3; clear hit3 hg3) | (go_at_call 46; (with_reducible refine (runes_Next.calls A2 (c0 - (at_ + p).toNat) ys r1 r2 _ (NC.out _ HB3.out) HCAP.out HF.out).mono ?_); rintro e' w4 ⟨rfl, hb4⟩; have HB4 := Aside0.mk (below_step HB3.out hb4); have HIT4 := Aside0.mk (blk_below HIT3.out hb4); have HQ4 := Aside0.mk (H.out.below HB4.out); have kc0 := HQ4.out.cell0; have kc1 := HQ4.out.cell1; have kc3 := HQ4.out.cell3; clear hb4) | (go_at_call 40; (with_reducible refine (colon_calls _ g _ c0 b at_ V op row base dash (by first | exact HQ4.out | exact HQ4.out.drewN _) (at_ + p) (by omega) (by omega)).mono ?_); rintro e' w5 ⟨rfl, n5, rfl⟩) | (go_at_call 63; (with_reducible refine (flow_calls _ _).mono ?_); rintro e' w5 ⟨rfl, n5, rfl⟩))
                    go_roundg m
                    case measure => omega
                    case rel => exact ⟨_, rdNext s p, _, rfl, rfl, ⟨⟨by have := HP.out.1; omega, hq1, HS2.out, by have := HM.out; have := HP.out.2; omega⟩⟩, ⟨by first | exact HIT4.out | exact blk_below HIT4.out (pw_below_drewN (Below.refl _ _) _)⟩, ⟨by first | exact HB4.out | exact below_then HB4.out HB4.out.size (pw_below_drewN (Below.refl _ _) _)⟩⟩
                  · have f32 : (rdRune s p == 32) = false := beq_eq_false_iff_ne.mpr (by omega)
                    have f9 : (rdRune s p == 9) = true := beq_iff_eq.mpr d
                    rw [if_pos (.inr d)] at HS
                    rw [show (rdRune s p == 32 || rdRune s p == 9) = true by rw [f32, f9]; rfl] at HS
                    have HS2 := Aside0.mk HS
                    clear HS hp0 hp1 hp p0 r0 co c5 o d
                    go_wp2_with (first | ((with_reducible refine gate_dst (N := 37) rfl ?_); refine next_event ?hg (N := 37) ?hd ?ho (x := .tmp 36) (g := G) (s := s) (p := p) ?hx HIT.out HP.out.1 HP.out.2 ?_; (case hd => rfl); (case hg => rfl); (case ho => rfl); (case hx => rfl); intro w3 hit3 hg3; have HB3 := Aside0.mk (pw_below_grown HB.out (some G) HB.out.size hg3 (fun k hk => by cases hk; exact HG.out)); have HIT3 := Aside0.mk hit3; have HQ3 := Aside0.mk (H.out.below HB3.out); have gc0 := HQ3.out.cell0; have gc1 := HQ3.out.cell1; have gc3 := HQ3.out.cell3; clear hit3 hg3) | (go_at_call 46; (with_reducible refine (runes_Next.calls A2 (c0 - (at_ + p).toNat) ys r1 r2 _ (NC.out _ HB3.out) HCAP.out HF.out).mono ?_); rintro e' w4 ⟨rfl, hb4⟩; have HB4 := Aside0.mk (below_step HB3.out hb4); have HIT4 := Aside0.mk (blk_below HIT3.out hb4); have HQ4 := Aside0.mk (H.out.below HB4.out); have kc0 := HQ4.out.cell0; have kc1 := HQ4.out.cell1; have kc3 := HQ4.out.cell3; clear hb4) | (go_at_call 40; (with_reducible refine (colon_calls _ g _ c0 b at_ V op row base dash (by first | exact HQ4.out | exact HQ4.out.drewN _) (at_ + p) (by omega) (by omega)).mono ?_); rintro e' w5 ⟨rfl, n5, rfl⟩) | (go_at_call 63; (with_reducible refine (flow_calls _ _).mono ?_); rintro e' w5 ⟨rfl, n5, rfl⟩))
                    go_roundg m
                    case measure => omega
                    case rel => exact ⟨_, rdNext s p, _, rfl, rfl, ⟨⟨by have := HP.out.1; omega, hq1, HS2.out, by have := HM.out; have := HP.out.2; omega⟩⟩, ⟨by first | exact HIT4.out | exact blk_below HIT4.out (pw_below_drewN (Below.refl _ _) _)⟩, ⟨by first | exact HB4.out | exact below_then HB4.out HB4.out.size (pw_below_drewN (Below.refl _ _) _)⟩⟩
                  · have f32 : (rdRune s p == 32) = false := beq_eq_false_iff_ne.mpr (by omega)
                    have f9 : (rdRune s p == 9) = false := beq_eq_false_iff_ne.mpr (by omega)
                    rw [if_neg (fun h => h.elim d.1 d.2)] at HS
                    rw [show (rdRune s p == 32 || rdRune s p == 9) = false by rw [f32, f9]; rfl] at HS
                    have HS2 := Aside0.mk HS
                    clear HS hp0 hp1 hp p0 r0 co c5 o d
                    go_wp2_with (first | ((with_reducible refine gate_dst (N := 37) rfl ?_); refine next_event ?hg (N := 37) ?hd ?ho (x := .tmp 36) (g := G) (s := s) (p := p) ?hx HIT.out HP.out.1 HP.out.2 ?_; (case hd => rfl); (case hg => rfl); (case ho => rfl); (case hx => rfl); intro w3 hit3 hg3; have HB3 := Aside0.mk (pw_below_grown HB.out (some G) HB.out.size hg3 (fun k hk => by cases hk; exact HG.out)); have HIT3 := Aside0.mk hit3; have HQ3 := Aside0.mk (H.out.below HB3.out); have gc0 := HQ3.out.cell0; have gc1 := HQ3.out.cell1; have gc3 := HQ3.out.cell3; clear hit3 hg3) | (go_at_call 46; (with_reducible refine (runes_Next.calls A2 (c0 - (at_ + p).toNat) ys r1 r2 _ (NC.out _ HB3.out) HCAP.out HF.out).mono ?_); rintro e' w4 ⟨rfl, hb4⟩; have HB4 := Aside0.mk (below_step HB3.out hb4); have HIT4 := Aside0.mk (blk_below HIT3.out hb4); have HQ4 := Aside0.mk (H.out.below HB4.out); have kc0 := HQ4.out.cell0; have kc1 := HQ4.out.cell1; have kc3 := HQ4.out.cell3; clear hb4) | (go_at_call 40; (with_reducible refine (colon_calls _ g _ c0 b at_ V op row base dash (by first | exact HQ4.out | exact HQ4.out.drewN _) (at_ + p) (by omega) (by omega)).mono ?_); rintro e' w5 ⟨rfl, n5, rfl⟩) | (go_at_call 63; (with_reducible refine (flow_calls _ _).mono ?_); rintro e' w5 ⟨rfl, n5, rfl⟩))
                    go_roundg m
                    case measure => omega
                    case rel => exact ⟨_, rdNext s p, _, rfl, rfl, ⟨⟨by have := HP.out.1; omega, hq1, HS2.out, by have := HM.out; have := HP.out.2; omega⟩⟩, ⟨by first | exact HIT4.out | exact blk_below HIT4.out (pw_below_drewN (Below.refl _ _) _)⟩, ⟨by first | exact HB4.out | exact below_then HB4.out HB4.out.size (pw_below_drewN (Below.refl _ _) _)⟩⟩
              · rw [if_pos ⟨p0, .inr (.inr ⟨c5, rfl⟩)⟩] at HS
                have HS2 := Aside0.mk HS
                clear HS hp0 hp1 hp p0 r0 co c5
                go_wp2_with (first | ((with_reducible refine gate_dst (N := 37) rfl ?_); refine next_event ?hg (N := 37) ?hd ?ho (x := .tmp 36) (g := G) (s := s) (p := p) ?hx HIT.out HP.out.1 HP.out.2 ?_; (case hd => rfl); (case hg => rfl); (case ho => rfl); (case hx => rfl); intro w3 hit3 hg3; have HB3 := Aside0.mk (pw_below_grown HB.out (some G) HB.out.size hg3 (fun k hk => by cases hk; exact HG.out)); have HIT3 := Aside0.mk hit3; have HQ3 := Aside0.mk (H.out.below HB3.out); have gc0 := HQ3.out.cell0; have gc1 := HQ3.out.cell1; have gc3 := HQ3.out.cell3; clear hit3 hg3) | (go_at_call 46; (with_reducible refine (runes_Next.calls A2 (c0 - (at_ + p).toNat) ys r1 r2 _ (NC.out _ HB3.out) HCAP.out HF.out).mono ?_); rintro e' w4 ⟨rfl, hb4⟩; have HB4 := Aside0.mk (below_step HB3.out hb4); have HIT4 := Aside0.mk (blk_below HIT3.out hb4); have HQ4 := Aside0.mk (H.out.below HB4.out); have kc0 := HQ4.out.cell0; have kc1 := HQ4.out.cell1; have kc3 := HQ4.out.cell3; clear hb4) | (go_at_call 40; (with_reducible refine (colon_calls _ g _ c0 b at_ V op row base dash (by first | exact HQ4.out | exact HQ4.out.drewN _) (at_ + p) (by omega) (by omega)).mono ?_); rintro e' w5 ⟨rfl, n5, rfl⟩) | (go_at_call 63; (with_reducible refine (flow_calls _ _).mono ?_); rintro e' w5 ⟨rfl, n5, rfl⟩))
                try rw [Exit.noGoto_ret]
                go_ret
                exact ⟨by rw [← HS2.out]; rfl, by first | exact HB4.out | exact below_then HB4.out HB4.out.size (pw_below_drewN (Below.refl _ _) _)⟩
            · have f35 : (rdRune s p == 35) = false := beq_eq_false_iff_ne.mpr c5
              by_cases o : op > 0
              · have fo : decide (op > 0) = true := decide_eq_true o
                by_cases l : rdRune s p < 128
                · have fl : decide (rdRune s p < 128) = true := decide_eq_true l
                  by_cases w_ : flow (rdRune s p % 256) = true
                  · rw [if_neg (fun h => h.2.elim r0 (fun h => h.elim co (fun h => c5 h.1))), if_pos ⟨p0, o, l, w_⟩] at HS
                    have HS2 := Aside0.mk HS
                    clear HS hp0 hp1 hp p0 r0 co c5 o l
                    go_wp2_with (first | ((with_reducible refine gate_dst (N := 37) rfl ?_); refine next_event ?hg (N := 37) ?hd ?ho (x := .tmp 36) (g := G) (s := s) (p := p) ?hx HIT.out HP.out.1 HP.out.2 ?_; (case hd => rfl); (case hg => rfl); (case ho => rfl); (case hx => rfl); intro w3 hit3 hg3; have HB3 := Aside0.mk (pw_below_grown HB.out (some G) HB.out.size hg3 (fun k hk => by cases hk; exact HG.out)); have HIT3 := Aside0.mk hit3; have HQ3 := Aside0.mk (H.out.below HB3.out); have gc0 := HQ3.out.cell0; have gc1 := HQ3.out.cell1; have gc3 := HQ3.out.cell3; clear hit3 hg3) | (go_at_call 46; (with_reducible refine (runes_Next.calls A2 (c0 - (at_ + p).toNat) ys r1 r2 _ (NC.out _ HB3.out) HCAP.out HF.out).mono ?_); rintro e' w4 ⟨rfl, hb4⟩; have HB4 := Aside0.mk (below_step HB3.out hb4); have HIT4 := Aside0.mk (blk_below HIT3.out hb4); have HQ4 := Aside0.mk (H.out.below HB4.out); have kc0 := HQ4.out.cell0; have kc1 := HQ4.out.cell1; have kc3 := HQ4.out.cell3; clear hb4) | (go_at_call 40; (with_reducible refine (colon_calls _ g _ c0 b at_ V op row base dash (by first | exact HQ4.out | exact HQ4.out.drewN _) (at_ + p) (by omega) (by omega)).mono ?_); rintro e' w5 ⟨rfl, n5, rfl⟩) | (go_at_call 63; (with_reducible refine (flow_calls _ _).mono ?_); rintro e' w5 ⟨rfl, n5, rfl⟩))
                    try rw [Exit.noGoto_ret]
                    go_ret
                    exact ⟨by rw [← HS2.out]; rfl, by first | exact HB4.out | exact below_then HB4.out HB4.out.size (pw_below_drewN (Below.refl _ _) _)⟩
                  · have NW := w_
                    replace w_ : flow (rdRune s p % 256) = false := by simpa using w_
                    rw [if_neg (fun h => h.2.elim r0 (fun h => h.elim co (fun h => c5 h.1))), if_neg (fun h => NW h.2.2.2)] at HS
                    rcases (by omega : rdRune s p = 32 ∨ rdRune s p = 9 ∨ (rdRune s p ≠ 32 ∧ rdRune s p ≠ 9)) with d | d | d
                    · have f32 : (rdRune s p == 32) = true := beq_iff_eq.mpr d
                      have f9 : (rdRune s p == 9) = false := beq_eq_false_iff_ne.mpr (by omega)
                      rw [if_pos (.inl d)] at HS
                      rw [show (rdRune s p == 32 || rdRune s p == 9) = true by rw [f32, f9]; rfl] at HS
                      have HS2 := Aside0.mk HS
                      clear HS hp0 hp1 hp p0 r0 co c5 NW o l d
                      go_wp2_with (first | ((with_reducible refine gate_dst (N := 37) rfl ?_); refine next_event ?hg (N := 37) ?hd ?ho (x := .tmp 36) (g := G) (s := s) (p := p) ?hx HIT.out HP.out.1 HP.out.2 ?_; (case hd => rfl); (case hg => rfl); (case ho => rfl); (case hx => rfl); intro w3 hit3 hg3; have HB3 := Aside0.mk (pw_below_grown HB.out (some G) HB.out.size hg3 (fun k hk => by cases hk; exact HG.out)); have HIT3 := Aside0.mk hit3; have HQ3 := Aside0.mk (H.out.below HB3.out); have gc0 := HQ3.out.cell0; have gc1 := HQ3.out.cell1; have gc3 := HQ3.out.cell3; clear hit3 hg3) | (go_at_call 46; (with_reducible refine (runes_Next.calls A2 (c0 - (at_ + p).toNat) ys r1 r2 _ (NC.out _ HB3.out) HCAP.out HF.out).mono ?_); rintro e' w4 ⟨rfl, hb4⟩; have HB4 := Aside0.mk (below_step HB3.out hb4); have HIT4 := Aside0.mk (blk_below HIT3.out hb4); have HQ4 := Aside0.mk (H.out.below HB4.out); have kc0 := HQ4.out.cell0; have kc1 := HQ4.out.cell1; have kc3 := HQ4.out.cell3; clear hb4) | (go_at_call 40; (with_reducible refine (colon_calls _ g _ c0 b at_ V op row base dash (by first | exact HQ4.out | exact HQ4.out.drewN _) (at_ + p) (by omega) (by omega)).mono ?_); rintro e' w5 ⟨rfl, n5, rfl⟩) | (go_at_call 63; (with_reducible refine (flow_calls _ _).mono ?_); rintro e' w5 ⟨rfl, n5, rfl⟩))
                      go_roundg m
                      case measure => omega
                      case rel => exact ⟨_, rdNext s p, _, rfl, rfl, ⟨⟨by have := HP.out.1; omega, hq1, HS2.out, by have := HM.out; have := HP.out.2; omega⟩⟩, ⟨by first | exact HIT4.out | exact blk_below HIT4.out (pw_below_drewN (Below.refl _ _) _)⟩, ⟨by first | exact HB4.out | exact below_then HB4.out HB4.out.size (pw_below_drewN (Below.refl _ _) _)⟩⟩
                    · have f32 : (rdRune s p == 32) = false := beq_eq_false_iff_ne.mpr (by omega)
                      have f9 : (rdRune s p == 9) = true := beq_iff_eq.mpr d
                      rw [if_pos (.inr d)] at HS
                      rw [show (rdRune s p == 32 || rdRune s p == 9) = true by rw [f32, f9]; rfl] at HS
                      have HS2 := Aside0.mk HS
                      clear HS hp0 hp1 hp p0 r0 co c5 NW o l d
                      go_wp2_with (first | ((with_reducible refine gate_dst (N := 37) rfl ?_); refine next_event ?hg (N := 37) ?hd ?ho (x := .tmp 36) (g := G) (s := s) (p := p) ?hx HIT.out HP.out.1 HP.out.2 ?_; (case hd => rfl); (case hg => rfl); (case ho => rfl); (case hx => rfl); intro w3 hit3 hg3; have HB3 := Aside0.mk (pw_below_grown HB.out (some G) HB.out.size hg3 (fun k hk => by cases hk; exact HG.out)); have HIT3 := Aside0.mk hit3; have HQ3 := Aside0.mk (H.out.below HB3.out); have gc0 := HQ3.out.cell0; have gc1 := HQ3.out.cell1; have gc3 := HQ3.out.cell3; clear hit3 hg3) | (go_at_call 46; (with_reducible refine (runes_Next.calls A2 (c0 - (at_ + p).toNat) ys r1 r2 _ (NC.out _ HB3.out) HCAP.out HF.out).mono ?_); rintro e' w4 ⟨rfl, hb4⟩; have HB4 := Aside0.mk (below_step HB3.out hb4); have HIT4 := Aside0.mk (blk_below HIT3.out hb4); have HQ4 := Aside0.mk (H.out.below HB4.out); have kc0 := HQ4.out.cell0; have kc1 := HQ4.out.cell1; have kc3 := HQ4.out.cell3; clear hb4) | (go_at_call 40; (with_reducible refine (colon_calls _ g _ c0 b at_ V op row base dash (by first | exact HQ4.out | exact HQ4.out.drewN _) (at_ + p) (by omega) (by omega)).mono ?_); rintro e' w5 ⟨rfl, n5, rfl⟩) | (go_at_call 63; (with_reducible refine (flow_calls _ _).mono ?_); rintro e' w5 ⟨rfl, n5, rfl⟩))
                      go_roundg m
                      case measure => omega
                      case rel => exact ⟨_, rdNext s p, _, rfl, rfl, ⟨⟨by have := HP.out.1; omega, hq1, HS2.out, by have := HM.out; have := HP.out.2; omega⟩⟩, ⟨by first | exact HIT4.out | exact blk_below HIT4.out (pw_below_drewN (Below.refl _ _) _)⟩, ⟨by first | exact HB4.out | exact below_then HB4.out HB4.out.size (pw_below_drewN (Below.refl _ _) _)⟩⟩
                    · have f32 : (rdRune s p == 32) = false := beq_eq_false_iff_ne.mpr (by omega)
                      have f9 : (rdRune s p == 9) = false := beq_eq_false_iff_ne.mpr (by omega)
                      rw [if_neg (fun h => h.elim d.1 d.2)] at HS
                      rw [show (rdRune s p == 32 || rdRune s p == 9) = false by rw [f32, f9]; rfl] at HS
                      have HS2 := Aside0.mk HS
                      clear HS hp0 hp1 hp p0 r0 co c5 NW o l d
                      go_wp2_with (first | ((with_reducible refine gate_dst (N := 37) rfl ?_); refine next_event ?hg (N := 37) ?hd ?ho (x := .tmp 36) (g := G) (s := s) (p := p) ?hx HIT.out HP.out.1 HP.out.2 ?_; (case hd => rfl); (case hg => rfl); (case ho => rfl); (case hx => rfl); intro w3 hit3 hg3; have HB3 := Aside0.mk (pw_below_grown HB.out (some G) HB.out.size hg3 (fun k hk => by cases hk; exact HG.out)); have HIT3 := Aside0.mk hit3; have HQ3 := Aside0.mk (H.out.below HB3.out); have gc0 := HQ3.out.cell0; have gc1 := HQ3.out.cell1; have gc3 := HQ3.out.cell3; clear hit3 hg3) | (go_at_call 46; (with_reducible refine (runes_Next.calls A2 (c0 - (at_ + p).toNat) ys r1 r2 _ (NC.out _ HB3.out) HCAP.out HF.out).mono ?_); rintro e' w4 ⟨rfl, hb4⟩; have HB4 := Aside0.mk (below_step HB3.out hb4); have HIT4 := Aside0.mk (blk_below HIT3.out hb4); have HQ4 := Aside0.mk (H.out.below HB4.out); have kc0 := HQ4.out.cell0; have kc1 := HQ4.out.cell1; have kc3 := HQ4.out.cell3; clear hb4) | (go_at_call 40; (with_reducible refine (colon_calls _ g _ c0 b at_ V op row base dash (by first | exact HQ4.out | exact HQ4.out.drewN _) (at_ + p) (by omega) (by omega)).mono ?_); rintro e' w5 ⟨rfl, n5, rfl⟩) | (go_at_call 63; (with_reducible refine (flow_calls _ _).mono ?_); rintro e' w5 ⟨rfl, n5, rfl⟩))
                      go_roundg m
                      case measure => omega
                      case rel => exact ⟨_, rdNext s p, _, rfl, rfl, ⟨⟨by have := HP.out.1; omega, hq1, HS2.out, by have := HM.out; have := HP.out.2; omega⟩⟩, ⟨by first | exact HIT4.out | exact blk_below HIT4.out (pw_below_drewN (Below.refl _ _) _)⟩, ⟨by first | exact HB4.out | exact below_then HB4.out HB4.out.size (pw_below_drewN (Below.refl _ _) _)⟩⟩
                · have fl : decide (rdRune s p < 128) = false := decide_eq_false l
                  rw [if_neg (fun h => h.2.elim r0 (fun h => h.elim co (fun h => c5 h.1))), if_neg (fun h => l h.2.2.1)] at HS
                  rcases (by omega : rdRune s p = 32 ∨ rdRune s p = 9 ∨ (rdRune s p ≠ 32 ∧ rdRune s p ≠ 9)) with d | d | d
                  · have f32 : (rdRune s p == 32) = true := beq_iff_eq.mpr d
                    have f9 : (rdRune s p == 9) = false := beq_eq_false_iff_ne.mpr (by omega)
                    rw [if_pos (.inl d)] at HS
                    rw [show (rdRune s p == 32 || rdRune s p == 9) = true by rw [f32, f9]; rfl] at HS
                    have HS2 := Aside0.mk HS
                    clear HS hp0 hp1 hp p0 r0 co c5 o l d
                    go_wp2_with (first | ((with_reducible refine gate_dst (N := 37) rfl ?_); refine next_event ?hg (N := 37) ?hd ?ho (x := .tmp 36) (g := G) (s := s) (p := p) ?hx HIT.out HP.out.1 HP.out.2 ?_; (case hd => rfl); (case hg => rfl); (case ho => rfl); (case hx => rfl); intro w3 hit3 hg3; have HB3 := Aside0.mk (pw_below_grown HB.out (some G) HB.out.size hg3 (fun k hk => by cases hk; exact HG.out)); have HIT3 := Aside0.mk hit3; have HQ3 := Aside0.mk (H.out.below HB3.out); have gc0 := HQ3.out.cell0; have gc1 := HQ3.out.cell1; have gc3 := HQ3.out.cell3; clear hit3 hg3) | (go_at_call 46; (with_reducible refine (runes_Next.calls A2 (c0 - (at_ + p).toNat) ys r1 r2 _ (NC.out _ HB3.out) HCAP.out HF.out).mono ?_); rintro e' w4 ⟨rfl, hb4⟩; have HB4 := Aside0.mk (below_step HB3.out hb4); have HIT4 := Aside0.mk (blk_below HIT3.out hb4); have HQ4 := Aside0.mk (H.out.below HB4.out); have kc0 := HQ4.out.cell0; have kc1 := HQ4.out.cell1; have kc3 := HQ4.out.cell3; clear hb4) | (go_at_call 40; (with_reducible refine (colon_calls _ g _ c0 b at_ V op row base dash (by first | exact HQ4.out | exact HQ4.out.drewN _) (at_ + p) (by omega) (by omega)).mono ?_); rintro e' w5 ⟨rfl, n5, rfl⟩) | (go_at_call 63; (with_reducible refine (flow_calls _ _).mono ?_); rintro e' w5 ⟨rfl, n5, rfl⟩))
                    go_roundg m
                    case measure => omega
                    case rel => exact ⟨_, rdNext s p, _, rfl, rfl, ⟨⟨by have := HP.out.1; omega, hq1, HS2.out, by have := HM.out; have := HP.out.2; omega⟩⟩, ⟨by first | exact HIT4.out | exact blk_below HIT4.out (pw_below_drewN (Below.refl _ _) _)⟩, ⟨by first | exact HB4.out | exact below_then HB4.out HB4.out.size (pw_below_drewN (Below.refl _ _) _)⟩⟩
                  · have f32 : (rdRune s p == 32) = false := beq_eq_false_iff_ne.mpr (by omega)
                    have f9 : (rdRune s p == 9) = true := beq_iff_eq.mpr d
                    rw [if_pos (.inr d)] at HS
                    rw [show (rdRune s p == 32 || rdRune s p == 9) = true by rw [f32, f9]; rfl] at HS
                    have HS2 := Aside0.mk HS
                    clear HS hp0 hp1 hp p0 r0 co c5 o l d
                    go_wp2_with (first | ((with_reducible refine gate_dst (N := 37) rfl ?_); refine next_event ?hg (N := 37) ?hd ?ho (x := .tmp 36) (g := G) (s := s) (p := p) ?hx HIT.out HP.out.1 HP.out.2 ?_; (case hd => rfl); (case hg => rfl); (case ho => rfl); (case hx => rfl); intro w3 hit3 hg3; have HB3 := Aside0.mk (pw_below_grown HB.out (some G) HB.out.size hg3 (fun k hk => by cases hk; exact HG.out)); have HIT3 := Aside0.mk hit3; have HQ3 := Aside0.mk (H.out.below HB3.out); have gc0 := HQ3.out.cell0; have gc1 := HQ3.out.cell1; have gc3 := HQ3.out.cell3; clear hit3 hg3) | (go_at_call 46; (with_reducible refine (runes_Next.calls A2 (c0 - (at_ + p).toNat) ys r1 r2 _ (NC.out _ HB3.out) HCAP.out HF.out).mono ?_); rintro e' w4 ⟨rfl, hb4⟩; have HB4 := Aside0.mk (below_step HB3.out hb4); have HIT4 := Aside0.mk (blk_below HIT3.out hb4); have HQ4 := Aside0.mk (H.out.below HB4.out); have kc0 := HQ4.out.cell0; have kc1 := HQ4.out.cell1; have kc3 := HQ4.out.cell3; clear hb4) | (go_at_call 40; (with_reducible refine (colon_calls _ g _ c0 b at_ V op row base dash (by first | exact HQ4.out | exact HQ4.out.drewN _) (at_ + p) (by omega) (by omega)).mono ?_); rintro e' w5 ⟨rfl, n5, rfl⟩) | (go_at_call 63; (with_reducible refine (flow_calls _ _).mono ?_); rintro e' w5 ⟨rfl, n5, rfl⟩))
                    go_roundg m
                    case measure => omega
                    case rel => exact ⟨_, rdNext s p, _, rfl, rfl, ⟨⟨by have := HP.out.1; omega, hq1, HS2.out, by have := HM.out; have := HP.out.2; omega⟩⟩, ⟨by first | exact HIT4.out | exact blk_below HIT4.out (pw_below_drewN (Below.refl _ _) _)⟩, ⟨by first | exact HB4.out | exact below_then HB4.out HB4.out.size (pw_below_drewN (Below.refl _ _) _)⟩⟩
                  · have f32 : (rdRune s p == 32) = false := beq_eq_false_iff_ne.mpr (by omega)
                    have f9 : (rdRune s p == 9) = false := beq_eq_false_iff_ne.mpr (by omega)
                    rw [if_neg (fun h => h.elim d.1 d.2)] at HS
                    rw [show (rdRune s p == 32 || rdRune s p == 9) = false by rw [f32, f9]; rfl] at HS
                    have HS2 := Aside0.mk HS
                    clear HS hp0 hp1 hp p0 r0 co c5 o l d
                    go_wp2_with (first | ((with_reducible refine gate_dst (N := 37) rfl ?_); refine next_event ?hg (N := 37) ?hd ?ho (x := .tmp 36) (g := G) (s := s) (p := p) ?hx HIT.out HP.out.1 HP.out.2 ?_; (case hd => rfl); (case hg => rfl); (case ho => rfl); (case hx => rfl); intro w3 hit3 hg3; have HB3 := Aside0.mk (pw_below_grown HB.out (some G) HB.out.size hg3 (fun k hk => by cases hk; exact HG.out)); have HIT3 := Aside0.mk hit3; have HQ3 := Aside0.mk (H.out.below HB3.out); have gc0 := HQ3.out.cell0; have gc1 := HQ3.out.cell1; have gc3 := HQ3.out.cell3; clear hit3 hg3) | (go_at_call 46; (with_reducible refine (runes_Next.calls A2 (c0 - (at_ + p).toNat) ys r1 r2 _ (NC.out _ HB3.out) HCAP.out HF.out).mono ?_); rintro e' w4 ⟨rfl, hb4⟩; have HB4 := Aside0.mk (below_step HB3.out hb4); have HIT4 := Aside0.mk (blk_below HIT3.out hb4); have HQ4 := Aside0.mk (H.out.below HB4.out); have kc0 := HQ4.out.cell0; have kc1 := HQ4.out.cell1; have kc3 := HQ4.out.cell3; clear hb4) | (go_at_call 40; (with_reducible refine (colon_calls _ g _ c0 b at_ V op row base dash (by first | exact HQ4.out | exact HQ4.out.drewN _) (at_ + p) (by omega) (by omega)).mono ?_); rintro e' w5 ⟨rfl, n5, rfl⟩) | (go_at_call 63; (with_reducible refine (flow_calls _ _).mono ?_); rintro e' w5 ⟨rfl, n5, rfl⟩))
                    go_roundg m
                    case measure => omega
                    case rel => exact ⟨_, rdNext s p, _, rfl, rfl, ⟨⟨by have := HP.out.1; omega, hq1, HS2.out, by have := HM.out; have := HP.out.2; omega⟩⟩, ⟨by first | exact HIT4.out | exact blk_below HIT4.out (pw_below_drewN (Below.refl _ _) _)⟩, ⟨by first | exact HB4.out | exact below_then HB4.out HB4.out.size (pw_below_drewN (Below.refl _ _) _)⟩⟩
              · have fo : decide (op > 0) = false := decide_eq_false o
                rw [if_neg (fun h => h.2.elim r0 (fun h => h.elim co (fun h => c5 h.1))), if_neg (fun h => o h.2.1)] at HS
                rcases (by omega : rdRune s p = 32 ∨ rdRune s p = 9 ∨ (rdRune s p ≠ 32 ∧ rdRune s p ≠ 9)) with d | d | d
                · have f32 : (rdRune s p == 32) = true := beq_iff_eq.mpr d
                  have f9 : (rdRune s p == 9) = false := beq_eq_false_iff_ne.mpr (by omega)
                  rw [if_pos (.inl d)] at HS
                  rw [show (rdRune s p == 32 || rdRune s p == 9) = true by rw [f32, f9]; rfl] at HS
                  have HS2 := Aside0.mk HS
                  clear HS hp0 hp1 hp p0 r0 co c5 o d
                  go_wp2_with (first | ((with_reducible refine gate_dst (N := 37) rfl ?_); refine next_event ?hg (N := 37) ?hd ?ho (x := .tmp 36) (g := G) (s := s) (p := p) ?hx HIT.out HP.out.1 HP.out.2 ?_; (case hd => rfl); (case hg => rfl); (case ho => rfl); (case hx => rfl); intro w3 hit3 hg3; have HB3 := Aside0.mk (pw_below_grown HB.out (some G) HB.out.size hg3 (fun k hk => by cases hk; exact HG.out)); have HIT3 := Aside0.mk hit3; have HQ3 := Aside0.mk (H.out.below HB3.out); have gc0 := HQ3.out.cell0; have gc1 := HQ3.out.cell1; have gc3 := HQ3.out.cell3; clear hit3 hg3) | (go_at_call 46; (with_reducible refine (runes_Next.calls A2 (c0 - (at_ + p).toNat) ys r1 r2 _ (NC.out _ HB3.out) HCAP.out HF.out).mono ?_); rintro e' w4 ⟨rfl, hb4⟩; have HB4 := Aside0.mk (below_step HB3.out hb4); have HIT4 := Aside0.mk (blk_below HIT3.out hb4); have HQ4 := Aside0.mk (H.out.below HB4.out); have kc0 := HQ4.out.cell0; have kc1 := HQ4.out.cell1; have kc3 := HQ4.out.cell3; clear hb4) | (go_at_call 40; (with_reducible refine (colon_calls _ g _ c0 b at_ V op row base dash (by first | exact HQ4.out | exact HQ4.out.drewN _) (at_ + p) (by omega) (by omega)).mono ?_); rintro e' w5 ⟨rfl, n5, rfl⟩) | (go_at_call 63; (with_reducible refine (flow_calls _ _).mono ?_); rintro e' w5 ⟨rfl, n5, rfl⟩))
                  go_roundg m
                  case measure => omega
                  case rel => exact ⟨_, rdNext s p, _, rfl, rfl, ⟨⟨by have := HP.out.1; omega, hq1, HS2.out, by have := HM.out; have := HP.out.2; omega⟩⟩, ⟨by first | exact HIT4.out | exact blk_below HIT4.out (pw_below_drewN (Below.refl _ _) _)⟩, ⟨by first | exact HB4.out | exact below_then HB4.out HB4.out.size (pw_below_drewN (Below.refl _ _) _)⟩⟩
                · have f32 : (rdRune s p == 32) = false := beq_eq_false_iff_ne.mpr (by omega)
                  have f9 : (rdRune s p == 9) = true := beq_iff_eq.mpr d
                  rw [if_pos (.inr d)] at HS
                  rw [show (rdRune s p == 32 || rdRune s p == 9) = true by rw [f32, f9]; rfl] at HS
                  have HS2 := Aside0.mk HS
                  clear HS hp0 hp1 hp p0 r0 co c5 o d
                  go_wp2_with (first | ((with_reducible refine gate_dst (N := 37) rfl ?_); refine next_event ?hg (N := 37) ?hd ?ho (x := .tmp 36) (g := G) (s := s) (p := p) ?hx HIT.out HP.out.1 HP.out.2 ?_; (case hd => rfl); (case hg => rfl); (case ho => rfl); (case hx => rfl); intro w3 hit3 hg3; have HB3 := Aside0.mk (pw_below_grown HB.out (some G) HB.out.size hg3 (fun k hk => by cases hk; exact HG.out)); have HIT3 := Aside0.mk hit3; have HQ3 := Aside0.mk (H.out.below HB3.out); have gc0 := HQ3.out.cell0; have gc1 := HQ3.out.cell1; have gc3 := HQ3.out.cell3; clear hit3 hg3) | (go_at_call 46; (with_reducible refine (runes_Next.calls A2 (c0 - (at_ + p).toNat) ys r1 r2 _ (NC.out _ HB3.out) HCAP.out HF.out).mono ?_); rintro e' w4 ⟨rfl, hb4⟩; have HB4 := Aside0.mk (below_step HB3.out hb4); have HIT4 := Aside0.mk (blk_below HIT3.out hb4); have HQ4 := Aside0.mk (H.out.below HB4.out); have kc0 := HQ4.out.cell0; have kc1 := HQ4.out.cell1; have kc3 := HQ4.out.cell3; clear hb4) | (go_at_call 40; (with_reducible refine (colon_calls _ g _ c0 b at_ V op row base dash (by first | exact HQ4.out | exact HQ4.out.drewN _) (at_ + p) (by omega) (by omega)).mono ?_); rintro e' w5 ⟨rfl, n5, rfl⟩) | (go_at_call 63; (with_reducible refine (flow_calls _ _).mono ?_); rintro e' w5 ⟨rfl, n5, rfl⟩))
                  go_roundg m
                  case measure => omega
                  case rel => exact ⟨_, rdNext s p, _, rfl, rfl, ⟨⟨by have := HP.out.1; omega, hq1, HS2.out, by have := HM.out; have := HP.out.2; omega⟩⟩, ⟨by first | exact HIT4.out | exact blk_below HIT4.out (pw_below_drewN (Below.refl _ _) _)⟩, ⟨by first | exact HB4.out | exact below_then HB4.out HB4.out.size (pw_below_drewN (Below.refl _ _) _)⟩⟩
                · have f32 : (rdRune s p == 32) = false := beq_eq_false_iff_ne.mpr (by omega)
                  have f9 : (rdRune s p == 9) = false := beq_eq_false_iff_ne.mpr (by omega)
                  rw [if_neg (fun h => h.elim d.1 d.2)] at HS
                  rw [show (rdRune s p == 32 || rdRune s p == 9) = false by rw [f32, f9]; rfl] at HS
                  have HS2 := Aside0.mk HS
                  clear HS hp0 hp1 hp p0 r0 co c5 o d
                  go_wp2_with (first | ((with_reducible refine gate_dst (N := 37) rfl ?_); refine next_event ?hg (N := 37) ?hd ?ho (x := .tmp 36) (g := G) (s := s) (p := p) ?hx HIT.out HP.out.1 HP.out.2 ?_; (case hd => rfl); (case hg => rfl); (case ho => rfl); (case hx => rfl); intro w3 hit3 hg3; have HB3 := Aside0.mk (pw_below_grown HB.out (some G) HB.out.size hg3 (fun k hk => by cases hk; exact HG.out)); have HIT3 := Aside0.mk hit3; have HQ3 := Aside0.mk (H.out.below HB3.out); have gc0 := HQ3.out.cell0; have gc1 := HQ3.out.cell1; have gc3 := HQ3.out.cell3; clear hit3 hg3) | (go_at_call 46; (with_reducible refine (runes_Next.calls A2 (c0 - (at_ + p).toNat) ys r1 r2 _ (NC.out _ HB3.out) HCAP.out HF.out).mono ?_); rintro e' w4 ⟨rfl, hb4⟩; have HB4 := Aside0.mk (below_step HB3.out hb4); have HIT4 := Aside0.mk (blk_below HIT3.out hb4); have HQ4 := Aside0.mk (H.out.below HB4.out); have kc0 := HQ4.out.cell0; have kc1 := HQ4.out.cell1; have kc3 := HQ4.out.cell3; clear hb4) | (go_at_call 40; (with_reducible refine (colon_calls _ g _ c0 b at_ V op row base dash (by first | exact HQ4.out | exact HQ4.out.drewN _) (at_ + p) (by omega) (by omega)).mono ?_); rintro e' w5 ⟨rfl, n5, rfl⟩) | (go_at_call 63; (with_reducible refine (flow_calls _ _).mono ?_); rintro e' w5 ⟨rfl, n5, rfl⟩))
                  go_roundg m
                  case measure => omega
                  case rel => exact ⟨_, rdNext s p, _, rfl, rfl, ⟨⟨by have := HP.out.1; omega, hq1, HS2.out, by have := HM.out; have := HP.out.2; omega⟩⟩, ⟨by first | exact HIT4.out | exact blk_below HIT4.out (pw_below_drewN (Below.refl _ _) _)⟩, ⟨by first | exact HB4.out | exact below_then HB4.out HB4.out.size (pw_below_drewN (Below.refl _ _) _)⟩⟩
      · have fp0 : decide (p > 0) = false := decide_eq_false p0
        rw [if_neg (fun h => p0 h.1), if_neg (fun h => p0 h.1)] at HS
        rcases (by omega : rdRune s p = 32 ∨ rdRune s p = 9 ∨ (rdRune s p ≠ 32 ∧ rdRune s p ≠ 9)) with d | d | d
        · have f32 : (rdRune s p == 32) = true := beq_iff_eq.mpr d
          have f9 : (rdRune s p == 9) = false := beq_eq_false_iff_ne.mpr (by omega)
          rw [if_pos (.inl d)] at HS
          rw [show (rdRune s p == 32 || rdRune s p == 9) = true by rw [f32, f9]; rfl] at HS
          have HS2 := Aside0.mk HS
          clear HS hp0 hp1 hp p0 d
          go_wp2_with (first | ((with_reducible refine gate_dst (N := 37) rfl ?_); refine next_event ?hg (N := 37) ?hd ?ho (x := .tmp 36) (g := G) (s := s) (p := p) ?hx HIT.out HP.out.1 HP.out.2 ?_; (case hd => rfl); (case hg => rfl); (case ho => rfl); (case hx => rfl); intro w3 hit3 hg3; have HB3 := Aside0.mk (pw_below_grown HB.out (some G) HB.out.size hg3 (fun k hk => by cases hk; exact HG.out)); have HIT3 := Aside0.mk hit3; have HQ3 := Aside0.mk (H.out.below HB3.out); have gc0 := HQ3.out.cell0; have gc1 := HQ3.out.cell1; have gc3 := HQ3.out.cell3; clear hit3 hg3) | (go_at_call 46; (with_reducible refine (runes_Next.calls A2 (c0 - (at_ + p).toNat) ys r1 r2 _ (NC.out _ HB3.out) HCAP.out HF.out).mono ?_); rintro e' w4 ⟨rfl, hb4⟩; have HB4 := Aside0.mk (below_step HB3.out hb4); have HIT4 := Aside0.mk (blk_below HIT3.out hb4); have HQ4 := Aside0.mk (H.out.below HB4.out); have kc0 := HQ4.out.cell0; have kc1 := HQ4.out.cell1; have kc3 := HQ4.out.cell3; clear hb4) | (go_at_call 40; (with_reducible refine (colon_calls _ g _ c0 b at_ V op row base dash (by first | exact HQ4.out | exact HQ4.out.drewN _) (at_ + p) (by omega) (by omega)).mono ?_); rintro e' w5 ⟨rfl, n5, rfl⟩) | (go_at_call 63; (with_reducible refine (flow_calls _ _).mono ?_); rintro e' w5 ⟨rfl, n5, rfl⟩))
          go_roundg m
          case measure => omega
          case rel => exact ⟨_, rdNext s p, _, rfl, rfl, ⟨⟨by have := HP.out.1; omega, hq1, HS2.out, by have := HM.out; have := HP.out.2; omega⟩⟩, ⟨by first | exact HIT4.out | exact blk_below HIT4.out (pw_below_drewN (Below.refl _ _) _)⟩, ⟨by first | exact HB4.out | exact below_then HB4.out HB4.out.size (pw_below_drewN (Below.refl _ _) _)⟩⟩
        · have f32 : (rdRune s p == 32) = false := beq_eq_false_iff_ne.mpr (by omega)
          have f9 : (rdRune s p == 9) = true := beq_iff_eq.mpr d
          rw [if_pos (.inr d)] at HS
          rw [show (rdRune s p == 32 || rdRune s p == 9) = true by rw [f32, f9]; rfl] at HS
          have HS2 := Aside0.mk HS
          clear HS hp0 hp1 hp p0 d
          go_wp2_with (first | ((with_reducible refine gate_dst (N := 37) rfl ?_); refine next_event ?hg (N := 37) ?hd ?ho (x := .tmp 36) (g := G) (s := s) (p := p) ?hx HIT.out HP.out.1 HP.out.2 ?_; (case hd => rfl); (case hg => rfl); (case ho => rfl); (case hx => rfl); intro w3 hit3 hg3; have HB3 := Aside0.mk (pw_below_grown HB.out (some G) HB.out.size hg3 (fun k hk => by cases hk; exact HG.out)); have HIT3 := Aside0.mk hit3; have HQ3 := Aside0.mk (H.out.below HB3.out); have gc0 := HQ3.out.cell0; have gc1 := HQ3.out.cell1; have gc3 := HQ3.out.cell3; clear hit3 hg3) | (go_at_call 46; (with_reducible refine (runes_Next.calls A2 (c0 - (at_ + p).toNat) ys r1 r2 _ (NC.out _ HB3.out) HCAP.out HF.out).mono ?_); rintro e' w4 ⟨rfl, hb4⟩; have HB4 := Aside0.mk (below_step HB3.out hb4); have HIT4 := Aside0.mk (blk_below HIT3.out hb4); have HQ4 := Aside0.mk (H.out.below HB4.out); have kc0 := HQ4.out.cell0; have kc1 := HQ4.out.cell1; have kc3 := HQ4.out.cell3; clear hb4) | (go_at_call 40; (with_reducible refine (colon_calls _ g _ c0 b at_ V op row base dash (by first | exact HQ4.out | exact HQ4.out.drewN _) (at_ + p) (by omega) (by omega)).mono ?_); rintro e' w5 ⟨rfl, n5, rfl⟩) | (go_at_call 63; (with_reducible refine (flow_calls _ _).mono ?_); rintro e' w5 ⟨rfl, n5, rfl⟩))
          go_roundg m
          case measure => omega
          case rel => exact ⟨_, rdNext s p, _, rfl, rfl, ⟨⟨by have := HP.out.1; omega, hq1, HS2.out, by have := HM.out; have := HP.out.2; omega⟩⟩, ⟨by first | exact HIT4.out | exact blk_below HIT4.out (pw_below_drewN (Below.refl _ _) _)⟩, ⟨by first | exact HB4.out | exact below_then HB4.out HB4.out.size (pw_below_drewN (Below.refl _ _) _)⟩⟩
        · have f32 : (rdRune s p == 32) = false := beq_eq_false_iff_ne.mpr (by omega)
          have f9 : (rdRune s p == 9) = false := beq_eq_false_iff_ne.mpr (by omega)
          rw [if_neg (fun h => h.elim d.1 d.2)] at HS
          rw [show (rdRune s p == 32 || rdRune s p == 9) = false by rw [f32, f9]; rfl] at HS
          have HS2 := Aside0.mk HS
          clear HS hp0 hp1 hp p0 d
          go_wp2_with (first | ((with_reducible refine gate_dst (N := 37) rfl ?_); refine next_event ?hg (N := 37) ?hd ?ho (x := .tmp 36) (g := G) (s := s) (p := p) ?hx HIT.out HP.out.1 HP.out.2 ?_; (case hd => rfl); (case hg => rfl); (case ho => rfl); (case hx => rfl); intro w3 hit3 hg3; have HB3 := Aside0.mk (pw_below_grown HB.out (some G) HB.out.size hg3 (fun k hk => by cases hk; exact HG.out)); have HIT3 := Aside0.mk hit3; have HQ3 := Aside0.mk (H.out.below HB3.out); have gc0 := HQ3.out.cell0; have gc1 := HQ3.out.cell1; have gc3 := HQ3.out.cell3; clear hit3 hg3) | (go_at_call 46; (with_reducible refine (runes_Next.calls A2 (c0 - (at_ + p).toNat) ys r1 r2 _ (NC.out _ HB3.out) HCAP.out HF.out).mono ?_); rintro e' w4 ⟨rfl, hb4⟩; have HB4 := Aside0.mk (below_step HB3.out hb4); have HIT4 := Aside0.mk (blk_below HIT3.out hb4); have HQ4 := Aside0.mk (H.out.below HB4.out); have kc0 := HQ4.out.cell0; have kc1 := HQ4.out.cell1; have kc3 := HQ4.out.cell3; clear hb4) | (go_at_call 40; (with_reducible refine (colon_calls _ g _ c0 b at_ V op row base dash (by first | exact HQ4.out | exact HQ4.out.drewN _) (at_ + p) (by omega) (by omega)).mono ?_); rintro e' w5 ⟨rfl, n5, rfl⟩) | (go_at_call 63; (with_reducible refine (flow_calls _ _).mono ?_); rintro e' w5 ⟨rfl, n5, rfl⟩))
          go_roundg m
          case measure => omega
          case rel => exact ⟨_, rdNext s p, _, rfl, rfl, ⟨⟨by have := HP.out.1; omega, hq1, HS2.out, by have := HM.out; have := HP.out.2; omega⟩⟩, ⟨by first | exact HIT4.out | exact blk_below HIT4.out (pw_below_drewN (Below.refl _ _) _)⟩, ⟨by first | exact HB4.out | exact below_then HB4.out HB4.out.size (pw_below_drewN (Below.refl _ _) _)⟩⟩
    · have hnx := next_end (P := Try.prog) HIT.out hp
      have HS : R = t := by
        rw [← HX.out.2.2.1]
        cases gk with
        | zero => rfl
        | succ m => simp only [plGo]; rw [if_neg hp]
      have HS2 := Aside0.mk HS
      clear HS
      go_wp2
      try rw [Exit.noGoto_ret]
      go_ret
      exact ⟨by rw [HS2.out]; rfl, HB.out⟩

end Go.Proofs.Ythoogadfhopkfaa.Sc
