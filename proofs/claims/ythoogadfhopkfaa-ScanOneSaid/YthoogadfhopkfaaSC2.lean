/- The scanner's functions that only look: marks, colons, names, quoted texts, heads. -/
import Derived.Test.YthoogadfhopkfaaSC1
namespace Go.Proofs.Ythoogadfhopkfaa.Sc
open Go.RowKit Go.Proofs.Ythoogadfhopkfaa.Q Go.Proofs.YthoogadfhopkfaaW.PrintWords Go.Proofs.YthoogadfhopkfaaW.PrintLast Go.Proofs.YthoogadfhopkfaaW.PrintMore
attribute [local go_sem] max2_int min2_int max_two min_two max_three min_three max_four min_four
set_option linter.unusedVariables false
set_option linter.unusedSimpArgs false
set_option maxHeartbeats 8000000
set_option maxRecDepth 100000

theorem mark_calls (W : World) (g : Nat) (A0 : Option Addr) (c0 : Nat) (b : List Int) (at_ : Int) (V : Value) (op row base : Int) (dash : Bool) (hs : SQ W g A0 c0 b at_ V op row base dash) (i : Int) (h0 : 0 ≤ i) (h1 : i ≤ (b.length : Int)) :
    Calls Try.prog 30 #[.pointer (some ⟨g, 0, none⟩), .int .i64 i] W fun e w' => e = .returned (.int .i64 (mark b i)) ∧ ∃ n, w' = W.drewN n := by
  have H := Aside0.mk hs
  have hc0 := hs.cell0
  have hl := hs.len
  clear hs
  by_cases l1 : (b.length : Int) < i + 3
  · have d1 : decide (i + 3 > (b.length : Int)) = true := decide_eq_true l1
    have he : mark b i = 0 := by simp [mark, l1]
    rw [he]
    clear he
    go_enter Try.func30, Try.ntmps30
    go_wp2_with (first | (go_at_call 39; (with_reducible refine (space_calls _ g _ c0 b at_ V op row base dash (by first | exact H.out | exact H.out.drewN _) _ (by omega)).mono ?_); rintro e w1 ⟨rfl, n1, rfl⟩))
    go_ret
    exact ⟨rfl, by repeat (first | exact dr0 _ | refine dr1 ?_ _)⟩
  · have d1 : decide (i + 3 > (b.length : Int)) = false := decide_eq_false (by omega)
    by_cases t1 : spc b (i + 3) = true
    · obtain ⟨i0, hi0, _, hsz, _⟩ := info_parts (P := Try.prog) info5
      obtain ⟨A1, hcut, hA, hcap⟩ := print_mid_of (P := Try.prog) (Value.int .u8) (0 : Int) 23 5 .i64 .i64 Try.underlying23 hi0 hsz A0 c0 b i (i + 3) h0 (by omega) (by omega) H.out.cap
      have hcv : ∀ n, (convert 23 9 (.slice A1 ((b.take (i + 3).toNat).drop i.toNat).length (c0 - i.toNat))).run Try.prog (W.drewN n) = .ok (.string (strOfNums ((b.take (i + 3).toNat).drop i.toNat))) (W.drewN n) := fun n => Kd.C_string Try.underlying23 Try.underlying5 Try.underlying9 (Kd.C_of_reads (h1 := fun _ => rfl) (hA _ (Kd.reads_of_C (H.out.drewN n).C)))
      clear hA hcap hi0 hsz
      have hm : mark b i = if (strOfNums (cut b i (i + 3))).toList == [45, 45, 45] then 20 else if (strOfNums (cut b i (i + 3))).toList == [46, 46, 46] then 21 else 0 := by simp [mark, l1, t1]
      rw [hm]
      unfold cut
      clear hm
      generalize (b.take (i + 3).toNat).drop i.toNat = xs at *
      generalize strOfNums xs = s at *
      by_cases s1 : s.toList = [45, 45, 45] <;> by_cases s2 : s.toList = [46, 46, 46]
      all_goals
        first | have e1 : (s.toList == [45, 45, 45]) = true := beq_iff_eq.mpr s1 | have e1 : (s.toList == [45, 45, 45]) = false := beq_eq_false_iff_ne.mpr s1
        first | have e2 : (s.toList == [46, 46, 46]) = true := beq_iff_eq.mpr s2 | have e2 : (s.toList == [46, 46, 46]) = false := beq_eq_false_iff_ne.mpr s2
        clear s1 s2
        rw [e1, e2]
        go_enter Try.func30, Try.ntmps30
        go_wp2_with (first | (go_at_call 39; (with_reducible refine (space_calls _ g _ c0 b at_ V op row base dash (by first | exact H.out | exact H.out.drewN _) _ (by omega)).mono ?_); rintro e w1 ⟨rfl, n1, rfl⟩))
        go_ret
        exact ⟨rfl, by repeat (first | exact dr0 _ | refine dr1 ?_ _)⟩
    · replace t1 : spc b (i + 3) = false := by simpa using t1
      have he : mark b i = 0 := by simp [mark, l1, t1]
      rw [he]
      clear he
      go_enter Try.func30, Try.ntmps30
      go_wp2_with (first | (go_at_call 39; (with_reducible refine (space_calls _ g _ c0 b at_ V op row base dash (by first | exact H.out | exact H.out.drewN _) _ (by omega)).mono ?_); rintro e w1 ⟨rfl, n1, rfl⟩))
      go_ret
      exact ⟨rfl, by repeat (first | exact dr0 _ | refine dr1 ?_ _)⟩

theorem spc_false {b : List Int} {i : Int} (h : spc b i = false) : i < (b.length : Int) := by
  unfold spc at h
  simp at h
  omega
theorem colon_calls (W : World) (g : Nat) (A0 : Option Addr) (c0 : Nat) (b : List Int) (at_ : Int) (V : Value) (op row base : Int) (dash : Bool) (hs : SQ W g A0 c0 b at_ V op row base dash) (i : Int) (h0 : 0 ≤ i) (h1 : i ≤ (b.length : Int)) :
    Calls Try.prog 40 #[.pointer (some ⟨g, 0, none⟩), .int .i64 i] W fun e w' => e = .returned (.bool (colon b op i)) ∧ ∃ n, w' = W.drewN n := by
  have H := Aside0.mk hs
  have hc0 := hs.cell0
  have hc3 := hs.cell3
  have hl := hs.len
  clear hs
  by_cases t0 : th b i 58 = true
  · by_cases t1 : spc b (i + 1) = true
    · have he : colon b op i = true := by simp [colon, t0, t1]
      rw [he]
      clear he
      go_enter Try.func40, Try.ntmps40
      go_wp2_with (first | (go_at_call 36; (with_reducible refine (there _ g _ c0 b at_ V op row base dash (by first | exact H.out | exact H.out.drewN _) _ _ (by omega)).mono ?_); rintro e w1 ⟨rfl, n1, rfl⟩) | (go_at_call 39; (with_reducible refine (space_calls _ g _ c0 b at_ V op row base dash (by first | exact H.out | exact H.out.drewN _) _ (by omega)).mono ?_); rintro e w1 ⟨rfl, n1, rfl⟩) | (go_at_call 63; (with_reducible refine (flow_calls _ _).mono ?_); rintro e w1 ⟨rfl, n1, rfl⟩))
      go_ret
      exact ⟨rfl, by repeat (first | exact dr0 _ | refine dr1 ?_ _)⟩
    · replace t1 : spc b (i + 1) = false := by simpa using t1
      have l1 : i + 1 < (b.length : Int) := spc_false t1
      obtain ⟨ad, ea, hx⟩ := Kd.at_int H.out.C (i + 1) (by omega) l1
      cases ea
      have q1 : (0 ≤ i + 1) = True := eq_true (by omega)
      have q2 : (i + 1 < (b.length : Int)) = True := eq_true l1
      by_cases o1 : op > 0
      · have d1 : decide (op > 0) = true := decide_eq_true o1
        have d2 : decide (0 < op) = true := decide_eq_true o1
        have he : colon b op i = flow (rd b (i + 1)) := by simp [colon, t0, t1, d2]
        rw [he]
        clear he
        go_enter Try.func40, Try.ntmps40
        go_wp2_with (first | (go_at_call 36; (with_reducible refine (there _ g _ c0 b at_ V op row base dash (by first | exact H.out | exact H.out.drewN _) _ _ (by omega)).mono ?_); rintro e w1 ⟨rfl, n1, rfl⟩) | (go_at_call 39; (with_reducible refine (space_calls _ g _ c0 b at_ V op row base dash (by first | exact H.out | exact H.out.drewN _) _ (by omega)).mono ?_); rintro e w1 ⟨rfl, n1, rfl⟩) | (go_at_call 63; (with_reducible refine (flow_calls _ _).mono ?_); rintro e w1 ⟨rfl, n1, rfl⟩))
        go_ret
        exact ⟨rfl, by repeat (first | exact dr0 _ | refine dr1 ?_ _)⟩
      · have d1 : decide (op > 0) = false := decide_eq_false o1
        have d2 : decide (0 < op) = false := decide_eq_false o1
        have he : colon b op i = false := by simp [colon, t0, t1, d2]
        rw [he]
        clear he
        go_enter Try.func40, Try.ntmps40
        go_wp2_with (first | (go_at_call 36; (with_reducible refine (there _ g _ c0 b at_ V op row base dash (by first | exact H.out | exact H.out.drewN _) _ _ (by omega)).mono ?_); rintro e w1 ⟨rfl, n1, rfl⟩) | (go_at_call 39; (with_reducible refine (space_calls _ g _ c0 b at_ V op row base dash (by first | exact H.out | exact H.out.drewN _) _ (by omega)).mono ?_); rintro e w1 ⟨rfl, n1, rfl⟩) | (go_at_call 63; (with_reducible refine (flow_calls _ _).mono ?_); rintro e w1 ⟨rfl, n1, rfl⟩))
        go_ret
        exact ⟨rfl, by repeat (first | exact dr0 _ | refine dr1 ?_ _)⟩
  · replace t0 : th b i 58 = false := by simpa using t0
    have he : colon b op i = false := by simp [colon, t0]
    rw [he]
    clear he
    go_enter Try.func40, Try.ntmps40
    go_wp2_with (first | (go_at_call 36; (with_reducible refine (there _ g _ c0 b at_ V op row base dash (by first | exact H.out | exact H.out.drewN _) _ _ (by omega)).mono ?_); rintro e w1 ⟨rfl, n1, rfl⟩) | (go_at_call 39; (with_reducible refine (space_calls _ g _ c0 b at_ V op row base dash (by first | exact H.out | exact H.out.drewN _) _ (by omega)).mono ?_); rintro e w1 ⟨rfl, n1, rfl⟩) | (go_at_call 63; (with_reducible refine (flow_calls _ _).mono ?_); rintro e w1 ⟨rfl, n1, rfl⟩))
    go_ret
    exact ⟨rfl, by repeat (first | exact dr0 _ | refine dr1 ?_ _)⟩

end Go.Proofs.Ythoogadfhopkfaa.Sc
