/- Proved here, in the forms of the print's contracts: what each Go function answers, and the rows of the laws over it; by a program and by hand. -/
import Derived.Test.YteomjicmlaglbaaQ0
namespace Go.Proofs.Yteomjicmlaglbaa.Q
open Go.RowKit Go.Proofs.YteomjicmlaglbaaW.PrintWords Go.Proofs.YteomjicmlaglbaaW.PrintLast Go.Proofs.YteomjicmlaglbaaW.PrintMore
attribute [local go_sem] max2_int min2_int max_two min_two max_three min_three max_four min_four   -- for this text's walks alone
set_option linter.unusedVariables false
set_option linter.unusedSimpArgs false

/-! ### runes_Next: function 15 (by hand) -/
def runes_Next.f (l0 : List Int) : Option (Int × Int) := if (l0.length : Int) = 0 then some (-1, 0) else some (nextS (strOfNums (l0.take 4)))
set_option maxHeartbeats 1000000 in
set_option maxRecDepth 100000 in
theorem runes_Next.calls (A0 : Option Addr) (c0 : Nat) (l0 : List Int) (r1 : Int) (r2 : Int) (w : World) (hr0 : Kd.C (Kd.int .u8) w A0 l0.length l0) (hc0 : l0.length ≤ c0) (h : runes_Next.f l0 = some (r1, r2)) :
    Calls Try.prog 15 #[.slice A0 l0.length c0] w fun e w' => e = .returned (.tuple #[.int .i32 r1, .int .i64 r2]) ∧ Below w.heap.size w w' := by
  unfold runes_Next.f at h
  by_cases h0 : (l0.length : Int) = 0
  · rw [if_pos h0] at h
    simp only [Option.some.injEq, Prod.mk.injEq] at h
    obtain ⟨rfl, rfl⟩ := h
    have hb : ((l0.length : Int) == 0) = true := beq_iff_eq.mpr h0
    clear h0
    go_enter Try.func15, Try.ntmps15
    go_wp2
    go_ret2
    exact ⟨rfl, Below.refl _ _⟩
  · rw [if_neg h0] at h
    have hb : ((l0.length : Int) == 0) = false := beq_eq_false_iff_ne.mpr h0
    have hpos : 0 < l0.length := by omega
    clear h0
    have hcv := fun q (hq : q ≤ l0.length) => Kd.C_string (P := Try.prog) (A := A0) (c := c0) Try.underlying22 Try.underlying5 Try.underlying9 (Kd.C_of_reads (d := (0 : Int)) (h1 := fun _ => rfl) ((Kd.reads_of_C hr0).take_ q hq) : Kd.C (Kd.int .u8) w A0 q (l0.take q))
    have hne : 0 < (strOfNums (l0.take 4)).size := by simp [strOfNums, ByteArray.size]; omega
    generalize hs : strOfNums (l0.take 4) = s at *
    have hdw := dec_le_size s 0 hne
    have hw1 := Lib.decode_width_pos s 0 hne
    have hd1 := decode_le s 0
    have hh := Aside0.mk (Option.some.inj h)
    clear h
    obtain ⟨c, hc⟩ : ∃ c, (Utf8.decode s 0).1 = c := ⟨_, rfl⟩
    obtain ⟨n, hn⟩ : ∃ n, (Utf8.decode s 0).2 = n := ⟨_, rfl⟩
    rw [hn] at hdw hw1
    rw [hc] at hd1
    have hres : Aside0 ((if c = 65533 ∧ n < 3 then ((-1 : Int), (1 : Int)) else ((c : Int), (n : Int))) = (r1, r2)) := by
      refine ⟨?_⟩
      have := hh.out
      unfold nextS at this
      rw [hc, hn] at this
      exact this
    have Hc := Aside0.mk hc
    have Hn := Aside0.mk hn
    clear hc hn hh
    have hend : n ≤ s.size := by omega
    clear hdw
    by_cases h4 : (4 : Int) < (l0.length : Int)
    · have hcap : (4 : Int) ≤ (c0 : Int) := by omega
      have hcv1 : Sem.run Try.prog (convert 22 9 (.slice A0 4 c0)) w = .ok (.string s) w := by have := hcv 4 (by omega); rwa [hs] at this
      clear hcv hs hr0 hc0
      go_enter Try.func15, Try.ntmps15
      go_wp2
      go_loopw [2] (fun v w' => ∃ (pos acc : Nat), w' = w.iter s pos ∧ v = .int .i32 acc ∧ acc ≤ 2147483647 ∧ Aside0 ((pos = 0 ∧ acc = 0) ∨ (pos = n ∧ acc = c))) (fun _ w' => s.size - w'.iterPos w.heap.size)
      case atStart => exact ⟨0, 0, rfl, rfl, by omega, ⟨.inl ⟨rfl, rfl⟩⟩⟩
      case round =>
        obtain ⟨pos, acc, rfl, rfl, hacc, hr⟩ := hrel
        by_cases hp : pos < s.size
        · have hnx : ∀ ty, (Instr.next (.pointer (some ⟨w.heap.size, 0, none⟩)) true ty).run Try.prog (w.iter s pos) = _ := fun ty => run_next_any w s pos ty hp
          rcases hr.out with ⟨rfl, rfl⟩ | ⟨rfl, rfl⟩
          · rw [Hc.out, Hn.out] at hnx
            go_wp2
            go_roundw
            case rel => exact ⟨n, c, by simp, by go_num, hd1, ⟨.inr ⟨rfl, rfl⟩⟩⟩
            case measure => simp; omega
          · go_wp2
            all_goals go_ret2
            all_goals refine ⟨?_, below_alloc (Below.refl _ _) _⟩
            all_goals exact next_ends hres.out (by omega)
        · have hnx : ∀ ty, (Instr.next (.pointer (some ⟨w.heap.size, 0, none⟩)) true ty).run Try.prog (w.iter s pos) = _ := fun ty => run_next_end w s pos ty hp
          rcases hr.out with ⟨rfl, rfl⟩ | ⟨rfl, rfl⟩
          · exact absurd hne hp
          go_wp2
          all_goals go_ret2
          all_goals refine ⟨?_, below_alloc (Below.refl _ _) _⟩
          all_goals exact next_ends hres.out (by omega)
    · have hcap : (l0.length : Int) ≤ (c0 : Int) := by omega
      have hcv1 : Sem.run Try.prog (convert 22 9 (.slice A0 l0.length c0)) w = .ok (.string s) w := by have := hcv l0.length (by omega); rwa [show l0.take l0.length = l0.take 4 by rw [List.take_of_length_le (Nat.le_refl _), List.take_of_length_le (by omega)], hs] at this
      clear hcv hs hr0 hc0
      go_enter Try.func15, Try.ntmps15
      go_wp2
      go_loopw [2] (fun v w' => ∃ (pos acc : Nat), w' = w.iter s pos ∧ v = .int .i32 acc ∧ acc ≤ 2147483647 ∧ Aside0 ((pos = 0 ∧ acc = 0) ∨ (pos = n ∧ acc = c))) (fun _ w' => s.size - w'.iterPos w.heap.size)
      case atStart => exact ⟨0, 0, rfl, rfl, by omega, ⟨.inl ⟨rfl, rfl⟩⟩⟩
      case round =>
        obtain ⟨pos, acc, rfl, rfl, hacc, hr⟩ := hrel
        by_cases hp : pos < s.size
        · have hnx : ∀ ty, (Instr.next (.pointer (some ⟨w.heap.size, 0, none⟩)) true ty).run Try.prog (w.iter s pos) = _ := fun ty => run_next_any w s pos ty hp
          rcases hr.out with ⟨rfl, rfl⟩ | ⟨rfl, rfl⟩
          · rw [Hc.out, Hn.out] at hnx
            go_wp2
            go_roundw
            case rel => exact ⟨n, c, by simp, by go_num, hd1, ⟨.inr ⟨rfl, rfl⟩⟩⟩
            case measure => simp; omega
          · go_wp2
            all_goals go_ret2
            all_goals refine ⟨?_, below_alloc (Below.refl _ _) _⟩
            all_goals exact next_ends hres.out (by omega)
        · have hnx : ∀ ty, (Instr.next (.pointer (some ⟨w.heap.size, 0, none⟩)) true ty).run Try.prog (w.iter s pos) = _ := fun ty => run_next_end w s pos ty hp
          rcases hr.out with ⟨rfl, rfl⟩ | ⟨rfl, rfl⟩
          · exact absurd hne hp
          go_wp2
          all_goals go_ret2
          all_goals refine ⟨?_, below_alloc (Below.refl _ _) _⟩
          all_goals exact next_ends hres.out (by omega)

/-! ### runes_Bad: function 20 -/
def runes_Bad.l0 : Nat → List Int → List Int → Int → Option (List Int)
  | 0, _, _, _ => none
  | k + 1, x0, x3, x4 => if x4 < (x0.length : Int) then (if 0 ≤ x4 then (if x4 ≤ (x0.length : Int) then ((runes_Next.f (x0.drop (x4 : Int).toNat)).bind fun bt199 => (if bt199.1 < 0 then (if x3.length < 17592186044416 then (runes_Bad.l0 k x0 (x3 ++ [x4]) (wrap64 (x4 + bt199.2))) else (none)) else (runes_Bad.l0 k x0 x3 (wrap64 (x4 + bt199.2))))) else (none)) else (none)) else (if ([] : List Int).length + x3.length < 17592186044416 then (some (([] : List Int) ++ x3)) else (none))
def runes_Bad.f (k : Nat) (l0 : List Int) : Option (List Int) := runes_Bad.l0 k l0 ([] : List Int) 0
theorem runes_Bad.mono_l : ∀ k, (∀ y0 y1 y2, LeO (runes_Bad.l0 k y0 y1 y2) (runes_Bad.l0 (k + 1) y0 y1 y2))
  | 0 => fun _ _ _ r h => by simp [runes_Bad.l0] at h
  | k + 1 => by
    have ih0 := runes_Bad.mono_l k
    · intro y0 y1 y2
      unfold runes_Bad.l0
      repeat' first
      | (with_reducible exact ih0 _ _ _)
      | (with_reducible exact LeO.refl _)
      | (with_reducible exact LeO.none _)
      | (with_reducible refine LeO.ite ?_ ?_)
      | (with_reducible refine LeO.bind ?_ (fun _ => ?_))
      | exact ih0 _ _ _
      | exact LeO.none _
      | refine LeO.ite ?_ ?_
      | refine LeO.bind ?_ (fun _ => ?_)
theorem runes_Bad.mono : ∀ a0 k, LeO (runes_Bad.f k a0) (runes_Bad.f (k + 1) a0) := by
  intro a0 k
  have ih0 := runes_Bad.mono_l k
  unfold runes_Bad.f
  repeat' first
      | (with_reducible exact ih0 _ _ _)
      | (with_reducible exact LeO.refl _)
      | (with_reducible exact LeO.none _)
      | (with_reducible refine LeO.ite ?_ ?_)
      | (with_reducible refine LeO.bind ?_ (fun _ => ?_))
      | exact ih0 _ _ _
      | exact LeO.none _
      | refine LeO.ite ?_ ?_
      | refine LeO.bind ?_ (fun _ => ?_)
set_option maxHeartbeats 8000000 in
set_option maxRecDepth 100000 in
theorem runes_Bad.calls (k : Nat) (A0 : Option Addr) (c0 : Nat) (l0 : List Int) (r : List Int) (w : World) (hr0 : Kd.C (Kd.int .u8) w A0 l0.length l0) (hc0 : l0.length ≤ c0) (h : runes_Bad.f k l0 = some r) :
    Calls Try.prog 20 #[.slice A0 l0.length c0] w fun e w' => ∃ v0_ : Value, e = .returned (v0_) ∧ Kd.R (Kd.int .i64) 3 w' w.heap.size (fun _ => True) v0_ r ∧ Below w.heap.size w w' := by
  have HR0 := Aside0.mk hr0
  have HC0 := Aside0.mk hc0
  clear hr0 hc0
  have HB := Aside0.mk (Below.refl w.heap.size w)
  have H : (runes_Bad.l0 k l0 ([] : List Int) 0) = some r := h
  clear h
  have H' := Aside0.mk H
  clear H
  go_enter Try.func20, Try.ntmps20
  go_wp2
  go_loopg [3, 4] k (fun kq v3 v4 w' => ∃ (x3_1 : List Int) (x4_1 : Int), v4 = .int .i64 x4_1 ∧ Aside0 (runes_Bad.l0 kq l0 x3_1 x4_1 = some r) ∧ Aside0 (kq ≤ k) ∧ Aside0 (Kd.R (Kd.int .i64) 3 w' w.heap.size (fun _ => True) v3 x3_1) ∧ Aside0 (Below w.heap.size w w'))
  case atStart => exact ⟨(([] : List Int)), (0), (by first | rfl | (simp; done) | (simp [*]; done)), H', ⟨Nat.le_refl _⟩, ⟨by first | exact Kd.R_nil _ _ _ _ _ | exact Kd.N_nil _ _ _ _ _ | exact Kd.V_nil _ _ _ _ _ | exact Kd.Q_nil _ _ _ _ _ | exact Kd.S_nil _ _ _ _ _⟩, ⟨by repeat (first | (with_reducible first | exact HB.out | apply below_alloc | apply pw_below_drewN | apply below_drew1) | exact HB.out)⟩⟩
  case round =>
    clear H'
    obtain ⟨x3_1, x4_1, rfl, HA, HK1, HO_3, HB⟩ := hrel
    cases gk with
    | zero => exact absurd HA.out (by simp [runes_Bad.l0])
    | succ k1 =>
      have H := HA.out
      clear HA
      simp only [runes_Bad.l0] at H
      by_cases c2 : x4_1 < (l0.length : Int)
      · rw [if_pos c2] at H
        have c2b0 : decide (x4_1 < (l0.length : Int)) = true := decide_eq_true c2
        clear c2
        by_cases c3 : 0 ≤ x4_1
        · rw [if_pos c3] at H
          have c3b0 := eq_true c3
          have c3b1 : decide (0 ≤ x4_1) = true := decide_eq_true c3
          clear c3
          by_cases c4 : x4_1 ≤ (l0.length : Int)
          · rw [if_pos c4] at H
            have c4b0 := eq_true c4
            have c4b1 : decide (x4_1 ≤ (l0.length : Int)) = true := decide_eq_true c4
            clear c4
            replace H := Option.bind_eq_some_iff.mp H
            obtain ⟨⟨t199, t200⟩, A50, H⟩ := H
            replace H : (if t199 < 0 then (if x3_1.length < 17592186044416 then (runes_Bad.l0 k1 l0 (x3_1 ++ [x4_1]) (wrap64 (x4_1 + t200))) else (none)) else (runes_Bad.l0 k1 l0 x3_1 (wrap64 (x4_1 + t200)))) = some r := H
            have A5 := Aside0.mk A50
            clear A50
            by_cases c6 : t199 < 0
            · rw [if_pos c6] at H
              have c6b0 : decide (t199 < 0) = true := decide_eq_true c6
              clear c6
              by_cases c7 : x3_1.length < 17592186044416
              · rw [if_pos c7] at H
                have LMc7 := Aside0.mk c7
                clear c7
                obtain ⟨y201, hy201⟩ : ∃ y_ : List Int, y_ = (x3_1 ++ [x4_1]) := ⟨_, rfl⟩
                replace H : (runes_Bad.l0 k1 l0 y201 (wrap64 (x4_1 + t200))) = some r := by first | (rw [hy201]; with_reducible exact H) | (have H2_ := (Option.bind_some _ _).symm.trans H; rw [hy201]; with_reducible exact H2_) | (have H2_ := (Option.bind_some _ _).symm.trans H; with_reducible exact H2_) | with_reducible exact H | (rw [hy201]; exact H) | exact H
                have Ny201 := Aside0.mk hy201
                clear hy201
                have H' := Aside0.mk H
                clear H
                obtain ⟨i08, hi08, _, hsz8, _⟩ := info_parts info5
                obtain ⟨A8, hcut8, hA8, hC8⟩ := print_drop_of (P := Try.prog) (Value.int .u8) 0 22 5 .i64 Try.underlying22 hi08 hsz8 A0 c0 l0 x4_1 (of_decide_eq_true (by first | (with_reducible assumption) | assumption)) (of_decide_eq_true (by first | (with_reducible assumption) | assumption)) HC0.out
                have HR198 := Aside0.mk (Kd.C_of_reads (h1 := fun _ => rfl) (hA8 _ (Kd.reads_of_C HR0.out)))
                have HC198 := Aside0.mk hC8
                clear hA8 hC8 hi08 hsz8
                go_wp2_with (first | ((with_reducible refine gate_callee (f := 15) rfl ?_); refine goesL_ (some 15) rfl rfl Try.func15 (by kernel_rfl) rfl #[.slice A8 (l0.drop (x4_1 : Int).toNat).length (c0 - x4_1.toNat)] rfl (by (try simp only [List.map_toArray, List.map_cons, List.map_nil]); first | done | (rw [show (l0.drop (x4_1 : Int).toNat).length = (l0.length - x4_1.toNat) from List.length_drop] <;> rfl) | rfl | (simp only [List.length_drop, List.length_take]; rfl) | (simp only [ByteArray.size_extract, Nat.min_self]; done) | (simp only [ByteArray.size_extract, Nat.min_self]; rfl)) ?_; (with_reducible refine (runes_Next.calls _ _ (l0.drop (x4_1 : Int).toNat) t199 t200 _ ?side1 ?side2 A5.out).mono ?_); (case side1 => repeat (first | exact (Kd.C_below HR198.out HB.out) | (with_reducible refine Kd.C_alloc ?_ _) | (with_reducible refine Kd.C_drewN ?_ _) | (with_reducible refine Kd.C_drew ?_))); (case side2 => exact HC198.out); rintro e w9 ⟨rfl, hb⟩; refine ⟨_, rfl, ?_⟩; have n0_ := Aside0.mk (Kd.R_below (by (with_reducible repeat (first | apply Kd.R_alloc | apply Kd.R_drewN | apply Kd.R_drew)); exact HO_3.out) hb); have n1_ := Aside0.mk (below_step (by repeat (first | (with_reducible first | exact HB.out | apply below_alloc | apply pw_below_drewN | apply below_drew1) | exact HB.out)) hb); clear HO_3; clear HB; have HO_3 := n0_; have HB := n1_; clear n0_ n1_; (try clear hb); (try clear hb2); (try clear hk); (try clear hi)) | ((with_reducible refine gate_builtin (b := .append) (xs := #[.tmp 20, .tmp 22]) rfl ?_); at_builtin; refine Kd.R_append (Kd.int .i64) (w0 := w) w.heap.size rfl (.tmp 20) (.tmp 22) 32 3 (.int .i64 0) 8 rfl Try.underlying32 info3 rfl (by decide) (by omega) u3 x3_1 x4_1 [.int .i64 x4_1] (fun _ => True) (fun _ => False) rfl rfl ?aP (fun _ hk => hk.elim) ?aF ?aO ?aB ?aS ?aL ?_; (case aP => exact rfl); (case aB => exact (by repeat (first | (with_reducible first | exact HB.out | apply below_alloc | apply pw_below_drewN | apply below_drew1) | exact HB.out))); (case aF => exact (fun _ _ => trivial)); (case aO => exact (by (with_reducible repeat (first | apply Kd.R_alloc | apply Kd.R_drewN | apply Kd.R_drew)); exact HO_3.out)); (case aS => exact (below_size (by repeat (first | (with_reducible first | exact HB.out | apply below_alloc | apply pw_below_drewN | apply below_drew1) | exact HB.out)))); (case aL => have := LMc7.out; omega); intro v202 w10 ho hb hg hat; rw [← Ny201.out] at ho; have n0_ := Aside0.mk (hb); have n1_ := Aside0.mk (ho); clear HB; clear HO_3; have HB := n0_; have HO203 := n1_; clear n0_ n1_; clear ho hb hg hat))
                go_roundg k1
                case measure => have := HK1.out; omega
                case rel => exact ⟨(y201), (wrap64 (x4_1 + t200)), (by first | rfl | (simp; done) | (simp [*]; done)), H', ⟨by have := HK1.out; omega⟩, ⟨by (with_reducible repeat (first | apply Kd.R_alloc | apply Kd.R_drewN | apply Kd.R_drew)); exact HO203.out⟩, ⟨by repeat (first | (with_reducible first | exact HB.out | apply below_alloc | apply pw_below_drewN | apply below_drew1) | exact HB.out)⟩⟩
              · rw [if_neg c7] at H
                exact absurd H (by simp)
            · rw [if_neg c6] at H
              have c6b0 : decide (t199 < 0) = false := decide_eq_false c6
              clear c6
              have H' := Aside0.mk H
              clear H
              obtain ⟨i011, hi011, _, hsz11, _⟩ := info_parts info5
              obtain ⟨A11, hcut11, hA11, hC11⟩ := print_drop_of (P := Try.prog) (Value.int .u8) 0 22 5 .i64 Try.underlying22 hi011 hsz11 A0 c0 l0 x4_1 (of_decide_eq_true (by first | (with_reducible assumption) | assumption)) (of_decide_eq_true (by first | (with_reducible assumption) | assumption)) HC0.out
              have HR198 := Aside0.mk (Kd.C_of_reads (h1 := fun _ => rfl) (hA11 _ (Kd.reads_of_C HR0.out)))
              have HC198 := Aside0.mk hC11
              clear hA11 hC11 hi011 hsz11
              go_wp2_with (first | ((with_reducible refine gate_callee (f := 15) rfl ?_); refine goesL_ (some 15) rfl rfl Try.func15 (by kernel_rfl) rfl #[.slice A11 (l0.drop (x4_1 : Int).toNat).length (c0 - x4_1.toNat)] rfl (by (try simp only [List.map_toArray, List.map_cons, List.map_nil]); first | done | (rw [show (l0.drop (x4_1 : Int).toNat).length = (l0.length - x4_1.toNat) from List.length_drop] <;> rfl) | rfl | (simp only [List.length_drop, List.length_take]; rfl) | (simp only [ByteArray.size_extract, Nat.min_self]; done) | (simp only [ByteArray.size_extract, Nat.min_self]; rfl)) ?_; (with_reducible refine (runes_Next.calls _ _ (l0.drop (x4_1 : Int).toNat) t199 t200 _ ?side1 ?side2 A5.out).mono ?_); (case side1 => repeat (first | exact (Kd.C_below HR198.out HB.out) | (with_reducible refine Kd.C_alloc ?_ _) | (with_reducible refine Kd.C_drewN ?_ _) | (with_reducible refine Kd.C_drew ?_))); (case side2 => exact HC198.out); rintro e w12 ⟨rfl, hb⟩; refine ⟨_, rfl, ?_⟩; have n0_ := Aside0.mk (Kd.R_below (by (with_reducible repeat (first | apply Kd.R_alloc | apply Kd.R_drewN | apply Kd.R_drew)); exact HO_3.out) hb); have n1_ := Aside0.mk (below_step (by repeat (first | (with_reducible first | exact HB.out | apply below_alloc | apply pw_below_drewN | apply below_drew1) | exact HB.out)) hb); clear HO_3; clear HB; have HO_3 := n0_; have HB := n1_; clear n0_ n1_; (try clear hb); (try clear hb2); (try clear hk); (try clear hi)))
              go_roundg k1
              case measure => have := HK1.out; omega
              case rel => exact ⟨(x3_1), (wrap64 (x4_1 + t200)), (by first | rfl | (simp; done) | (simp [*]; done)), H', ⟨by have := HK1.out; omega⟩, ⟨by (with_reducible repeat (first | apply Kd.R_alloc | apply Kd.R_drewN | apply Kd.R_drew)); exact HO_3.out⟩, ⟨by repeat (first | (with_reducible first | exact HB.out | apply below_alloc | apply pw_below_drewN | apply below_drew1) | exact HB.out)⟩⟩
          · rw [if_neg c4] at H
            exact absurd H (by simp)
        · rw [if_neg c3] at H
          exact absurd H (by simp)
      · rw [if_neg c2] at H
        have c2b0 : decide (x4_1 < (l0.length : Int)) = false := decide_eq_false c2
        clear c2
        by_cases c13 : ([] : List Int).length + x3_1.length < 17592186044416
        · rw [if_pos c13] at H
          have LMc13 := Aside0.mk c13
          clear c13
          obtain ⟨y204, hy204⟩ : ∃ y_ : List Int, y_ = (([] : List Int) ++ x3_1) := ⟨_, rfl⟩
          replace H : (some y204) = some r := by first | (rw [hy204]; with_reducible exact H) | (have H2_ := (Option.bind_some _ _).symm.trans H; rw [hy204]; with_reducible exact H2_) | (have H2_ := (Option.bind_some _ _).symm.trans H; with_reducible exact H2_) | with_reducible exact H | (rw [hy204]; exact H) | exact H
          have Ny204 := Aside0.mk hy204
          clear hy204
          obtain rfl := Option.some.inj H
          obtain ⟨Ao15, co15, eo15⟩ := Kd.R_slice HO_3.out
          subst eo15
          go_wp2_with (first | ((with_reducible refine gate_builtin (b := .append) (xs := #[.const (.slice none 0 0), .tmp 27]) rfl ?_); at_builtin; refine Kd.R_append_rows (Kd.int .i64) (w0 := w) w.heap.size rfl (.const (.slice none 0 0)) (.tmp 27) 32 3 (.int .i64 0) 8 rfl Try.underlying32 info3 rfl (by decide) (by omega) (.slice none 0 0) ([] : List Int) x3_1 _ _ _ (fun k_ => some k_ ≠ (.slice Ao15 x3_1.length co15 : Value).ownBlock) (fun _ => False) rfl rfl ?aO ?aR (fun _ _ h => h) (fun _ h => h.elim) ?aF ?aB ?aS ?aL ?_; (case aR => repeat (first | exact (Kd.R_reads' HO_3.out).2.2 | (with_reducible refine Kd.C_alloc ?_ _) | (with_reducible refine Kd.C_drewN ?_ _) | (with_reducible refine Kd.C_drew ?_))); (case aB => exact (by repeat (first | (with_reducible first | exact HB.out | apply below_alloc | apply pw_below_drewN | apply below_drew1) | exact HB.out))); (case aF => exact (fun k_ hk => Kd.fresh' (Kd.R_lt (by (with_reducible repeat (first | apply Kd.R_alloc | apply Kd.R_drewN | apply Kd.R_drew)); exact HO_3.out)) k_ hk)); (case aO => exact ((Kd.R_nil _ _ _ _ (fun k_ => some k_ ≠ (.slice Ao15 x3_1.length co15 : Value).ownBlock)))); (case aS => exact (below_size (by repeat (first | (with_reducible first | exact HB.out | apply below_alloc | apply pw_below_drewN | apply below_drew1) | exact HB.out)))); (case aL => have := LMc13.out; omega); intro v205 w14 ho hb hg hat; rw [← Ny204.out] at ho; have n0_ := Aside0.mk (Kd.R_after (Kd.R_apart_nil (by (with_reducible repeat (first | apply Kd.R_alloc | apply Kd.R_drewN | apply Kd.R_drew)); exact HO_3.out)) hg hat); have n1_ := Aside0.mk (hb); have n2_ := Aside0.mk (ho); clear HO_3; clear HB; have HO_3 := n0_; have HB := n1_; have HO206 := n2_; clear n0_ n1_ n2_; clear ho hb hg hat))
          go_ret
          exact ⟨_, by first | rfl | (simp [errW_none, errW_some] <;> rfl) | (simp [*, errW_none, errW_some] <;> rfl), by (with_reducible repeat (first | apply Kd.R_alloc | apply Kd.R_drewN | apply Kd.R_drew)); exact Kd.R_mono HO206.out (fun _ hk => trivial), by repeat (first | (with_reducible first | exact HB.out | apply below_alloc | apply pw_below_drewN | apply below_drew1) | exact HB.out)⟩
        · rw [if_neg c13] at H
          exact absurd H (by simp)

/-! ### runes_Count: function 22 (by hand) -/
def runes_Count.f (l0 : List Int) : Option (Int) := some (Lib.runeCount (strOfNums l0) : Int)
set_option maxHeartbeats 1000000 in
set_option maxRecDepth 100000 in
theorem runes_Count.calls (A0 : Option Addr) (c0 : Nat) (l0 : List Int) (r : Int) (w : World) (hr0 : Kd.C (Kd.int .u8) w A0 l0.length l0) (hc0 : l0.length ≤ c0) (h : runes_Count.f l0 = some r) :
    Calls Try.prog 22 #[.slice A0 l0.length c0] w fun e w' => e = .returned (.int .i64 r) ∧ Below w.heap.size w w' := by
  have hcv := Kd.C_string (P := Try.prog) (A := A0) (c := c0) Try.underlying22 Try.underlying5 Try.underlying9 hr0
  obtain rfl := Option.some.inj h
  clear h
  have hsz : (strOfNums l0).size ≤ 9223372036854775807 := by
    have := (Kd.reads_of_C (enc := Value.int .u8) (d := (0 : Int)) (h1 := fun _ => rfl) hr0).2.1
    simpa [strOfNums, ByteArray.size] using this
  generalize strOfNums l0 = s at *
  have HC := Aside0.mk (Lib.runeCount_le s)
  go_enter Try.func22, Try.ntmps22
  go_wp2
  go_loopw [3] (fun n w' => ∃ (pos b acc : Nat), w' = w.iter s pos ∧ n = .int .i64 acc ∧ Aside0 (acc + Lib.runeCountFrom s b pos = Lib.runeCount s) ∧ s.size ≤ pos + b) (fun _ w' => s.size - w'.iterPos w.heap.size)
  case atStart => exact ⟨0, s.size, 0, rfl, rfl, ⟨by simp [Lib.runeCount]⟩, by omega⟩
  case round =>
    obtain ⟨pos, b, acc, rfl, rfl, hc, hb⟩ := hrel
    by_cases hp : pos < s.size
    · have hnx : ∀ ty, (Instr.next (.pointer (some ⟨w.heap.size, 0, none⟩)) true ty).run Try.prog (w.iter s pos) = _ := fun ty => run_next_any w s pos ty hp
      have hacc : (acc : Int) < 9223372036854775807 := by
        have h1 := hc.out; have h2 := HC.out
        obtain ⟨b, rfl⟩ : ∃ b', b = b' + 1 := ⟨b - 1, by omega⟩
        simp only [Lib.runeCountFrom, if_pos hp] at h1
        omega
      go_wp2
      have hwd := Lib.decode_width_pos s pos hp
      go_roundw
      case rel =>
        obtain ⟨b, rfl⟩ : ∃ b', b = b' + 1 := ⟨b - 1, by omega⟩
        refine ⟨pos + (Utf8.decode s pos).2, b, acc + 1, rfl, by go_num, ⟨?_⟩, by omega⟩
        rw [← hc.out]
        simp only [Lib.runeCountFrom, if_pos hp]
        omega
      case measure => simp; omega
    · have hnx : ∀ ty, (Instr.next (.pointer (some ⟨w.heap.size, 0, none⟩)) true ty).run Try.prog (w.iter s pos) = _ := fun ty => run_next_end w s pos ty hp
      go_wp2
      go_ret
      have h1 := hc.out
      rw [Lib.runeCountFrom_end s b pos hp] at h1
      subst h1
      exact ⟨by simp, below_alloc (Below.refl _ _) _⟩

end Go.Proofs.Yteomjicmlaglbaa.Q
