/- The reference's scanner: what only looks. -/
import Derived.Test.YtagjfcogbnhmgaaRF0
import Derived.Test.YtagjfcogbnhmgaaQcorrectorref5
import Derived.Test.YtagjfcogbnhmgaaQcorrectorref2
import Derived.IntWalk
namespace Go.Proofs.Ytagjfcogbnhmgaa.Rf
open Go.RowKit Go.Proofs.Ytagjfcogbnhmgaa.Q Go.Proofs.YtagjfcogbnhmgaaW.PrintWords Go.Proofs.YtagjfcogbnhmgaaW.PrintLast Go.Proofs.YtagjfcogbnhmgaaW.PrintMore Go.Proofs.Ytagjfcogbnhmgaa.Sc Go.Proofs.Ytagjfcogbnhmgaa.Pure
attribute [local go_sem] max2_int min2_int max_two min_two max_three min_three max_four min_four
set_option linter.unusedVariables false
set_option linter.unusedSimpArgs false
set_option maxHeartbeats 1000000
set_option maxRecDepth 100000

/-- A scanner's block, and its bytes. -/
structure RQ (W : World) (g : Nat) (A0 : Option Addr) (c0 : Nat) (b : List Int) (at_ row op base : Int) (only : Bool) (text : Int) (V : Value) : Prop where
  blk : W.heap[g]? = some (.cells #[.slice A0 b.length c0, .int .i64 at_, .int .i64 row, .int .i64 op, .int .i64 base, .bool only, .int .i64 text, V] 37 (0, 0))
  C : Kd.C (Kd.int .u8) W A0 b.length b
  cap : b.length ≤ c0
  len : (b.length : Int) ≤ 16384
section
variable {W : World} {g : Nat} {A0 : Option Addr} {c0 : Nat} {b : List Int} {at_ row op base : Int} {only : Bool} {text : Int} {V : Value}
theorem RQ.drewN (h : RQ W g A0 c0 b at_ row op base only text V) (n : Nat) : RQ (W.drewN n) g A0 c0 b at_ row op base only text V := ⟨h.blk, Kd.C_drewN h.C n, h.cap, h.len⟩
theorem RQ.cell0 (h : RQ W g A0 c0 b at_ row op base only text V) : W.cell? ⟨g, 0, none⟩ = some (.slice A0 b.length c0) := (blk_cell h.blk 0).trans rfl
theorem RQ.cell1 (h : RQ W g A0 c0 b at_ row op base only text V) : W.cell? ⟨g, 1, none⟩ = some (.int .i64 at_) := (blk_cell h.blk 1).trans rfl
theorem RQ.cell2 (h : RQ W g A0 c0 b at_ row op base only text V) : W.cell? ⟨g, 2, none⟩ = some (.int .i64 row) := (blk_cell h.blk 2).trans rfl
theorem RQ.cell3 (h : RQ W g A0 c0 b at_ row op base only text V) : W.cell? ⟨g, 3, none⟩ = some (.int .i64 op) := (blk_cell h.blk 3).trans rfl
theorem RQ.cell4 (h : RQ W g A0 c0 b at_ row op base only text V) : W.cell? ⟨g, 4, none⟩ = some (.int .i64 base) := (blk_cell h.blk 4).trans rfl
theorem RQ.cell5 (h : RQ W g A0 c0 b at_ row op base only text V) : W.cell? ⟨g, 5, none⟩ = some (.bool only) := (blk_cell h.blk 5).trans rfl
theorem RQ.cell6 (h : RQ W g A0 c0 b at_ row op base only text V) : W.cell? ⟨g, 6, none⟩ = some (.int .i64 text) := (blk_cell h.blk 6).trans rfl
theorem RQ.cell7 (h : RQ W g A0 c0 b at_ row op base only text V) : W.cell? ⟨g, 7, none⟩ = some (V) := (blk_cell h.blk 7).trans rfl
end
theorem dr0 (w : World) : ∃ n, w = w.drewN n := ⟨0, rfl⟩
theorem dr1 {w w' : World} (h : ∃ n, w' = w.drewN n) (m : Nat) : ∃ n, w'.drewN m = w.drewN n := by
  obtain ⟨n, rfl⟩ := h
  exact ⟨n + m, World.drewN_drewN ..⟩
theorem spc_false {b : List Int} {i : Int} (h : spc b i = false) : i < (b.length : Int) := by
  unfold spc at h
  simp at h
  omega
theorem brk_range (b : List Int) (i : Int) : 0 ≤ brk b i ∧ brk b i ≤ 2 := by
  unfold brk
  repeat' split
  all_goals omega
theorem break_is (b : List Int) (i : Int) (h0 : 0 ≤ i) (h1 : i ≤ (b.length : Int)) (hl : (b.length : Int) ≤ 16384) : correctorref2_Break.f 5 b i = some (brk b i) := by
  have hw : wrap64 (i + 1) = i + 1 := by unfold wrap64; omega
  by_cases h2 : i < (b.length : Int)
  · simp only [correctorref2_Break.f, correctorref2_Break.j0, hw]
    rw [if_neg (by omega), if_pos h0, if_pos h2]
    by_cases a : rd b i = 13 <;> by_cases c : i + 1 < (b.length : Int) <;> by_cases d : rd b (i + 1) = 10 <;> by_cases e : rd b i = 10
    all_goals simp [brk, th, a, c, d, e, h0, h2, show (0 : Int) ≤ i + 1 by omega]
    all_goals omega
  · unfold correctorref2_Break.f
    rw [if_pos (by omega)]
    simp [brk, th, h2, show ¬ i + 1 < (b.length : Int) by omega]
theorem break_calls (W : World) (A0 : Option Addr) (c0 : Nat) (b : List Int) (hC : Kd.C (Kd.int .u8) W A0 b.length b) (hc : b.length ≤ c0) (hl : (b.length : Int) ≤ 16384) (i : Int) (h0 : 0 ≤ i) (h1 : i ≤ (b.length : Int)) :
    Calls Try.prog 20 #[.slice A0 b.length c0, .int .i64 i] W fun e w' => e = .returned (.int .i64 (brk b i)) ∧ ∃ n, w' = W.drewN n :=
  (correctorref2_Break.calls 5 A0 c0 b i (brk b i) W hC hc (break_is b i h0 h1 hl)).mono fun _ _ h => ⟨h.1, h.2.out⟩
theorem rblank_calls (c : Int) (W : World) : Calls Try.prog 22 #[.int .u8 c] W fun e w' => e = .returned (.bool (Sc.blank c)) ∧ ∃ n, w' = W.drewN n :=
  (correctorref5_Blank.calls c (Sc.blank c) W (by
    unfold correctorref5_Blank.f Sc.blank
    by_cases h : c = 32 <;> simp [h])).mono fun _ _ h => ⟨h.1, h.2.out⟩
theorem rname_calls (c : Int) (W : World) : Calls Try.prog 36 #[.int .u8 c] W fun e w' => e = .returned (.bool (name c)) ∧ ∃ n, w' = W.drewN n := by
  have hk : correctorref5_Name.f c = some (name c) := by
    unfold correctorref5_Name.f name
    repeat' split
    all_goals
      rw [Option.some.injEq, Bool.eq_iff_iff]
      simp only [Bool.or_eq_true, decide_eq_true_eq, Bool.false_eq_true, true_iff, false_iff, beq_iff_eq]
      omega
  exact (correctorref5_Name.calls c (name c) W hk).mono fun _ _ h => ⟨h.1, h.2.out⟩
theorem rflow_calls (c : Int) (W : World) : Calls Try.prog 37 #[.int .u8 c] W fun e w' => e = .returned (.bool (flow c)) ∧ ∃ n, w' = W.drewN n := by
  have hk : correctorref5_Flow.f c = some (flow c) := by
    unfold correctorref5_Flow.f flow
    repeat' split
    all_goals
      rw [Option.some.injEq, Bool.eq_iff_iff]
      simp only [Bool.or_eq_true, Bool.false_eq_true, true_iff, false_iff, beq_iff_eq]
      omega
  exact (correctorref5_Flow.calls c (flow c) W hk).mono fun _ _ h => ⟨h.1, h.2.out⟩

theorem byteAt_calls (W : World) (g : Nat) (A0 : Option Addr) (c0 : Nat) (b : List Int) (at_ row op base : Int) (only : Bool) (text : Int) (V : Value) (hs : RQ W g A0 c0 b at_ row op base only text V) (i : Int) :
    Calls Try.prog 17 #[.pointer (some ⟨g, 0, none⟩), .int .i64 i] W fun e w' => e = .returned (.int .u8 (ba b i)) ∧ ∃ n, w' = W.drewN n := by
  have H := Aside0.mk hs
  have hc0 := hs.cell0
  have hl := hs.len
  clear hs
  by_cases h0 : i < 0
  · have d0 : decide (i < 0) = true := decide_eq_true h0
    have hR : ba b i = 0 := by unfold ba; rw [if_neg (by omega)]
    rw [hR]
    go_enter Try.func17, Try.ntmps17
    go_wp2
    go_ret
    exact ⟨rfl, by repeat (first | exact dr0 _ | refine dr1 ?_ _)⟩
  · have d0 : decide (i < 0) = false := decide_eq_false h0
    by_cases h1 : i < (b.length : Int)
    · have d1 : decide (i ≥ (b.length : Int)) = false := decide_eq_false (by omega)
      obtain ⟨ad, ea, hx⟩ := Kd.at_int H.out.C (i) (by omega) (by omega)
      cases ea
      have q1 : (0 ≤ i) = True := eq_true (by omega)
      have q2 : (i < (b.length : Int)) = True := eq_true (by omega)
      have hR : ba b i = rd b i := by unfold ba; rw [if_pos (by omega)]
      rw [hR]
      clear hR
      go_enter Try.func17, Try.ntmps17
      go_wp2
      go_ret
      exact ⟨rfl, by repeat (first | exact dr0 _ | refine dr1 ?_ _)⟩
    · have d1 : decide (i ≥ (b.length : Int)) = true := decide_eq_true (by omega)
      have hR : ba b i = 0 := by unfold ba; rw [if_neg (by omega)]
      rw [hR]
      clear hR
      go_enter Try.func17, Try.ntmps17
      go_wp2
      go_ret
      exact ⟨rfl, by repeat (first | exact dr0 _ | refine dr1 ?_ _)⟩

theorem ended_calls (W : World) (g : Nat) (A0 : Option Addr) (c0 : Nat) (b : List Int) (at_ row op base : Int) (only : Bool) (text : Int) (V : Value) (hs : RQ W g A0 c0 b at_ row op base only text V) (i : Int) (h0 : 0 ≤ i) :
    Calls Try.prog 18 #[.pointer (some ⟨g, 0, none⟩), .int .i64 i] W fun e w' => e = .returned (.bool (spc b i)) ∧ ∃ n, w' = W.drewN n := by
  have H := Aside0.mk hs
  have hc0 := hs.cell0
  have hl := hs.len
  clear hs
  by_cases h1 : i < (b.length : Int)
  · have d1 : decide (i ≥ (b.length : Int)) = false := decide_eq_false (by omega)
    have d2 : decide ((b.length : Int) ≤ i) = false := decide_eq_false (by omega)
    obtain ⟨ad, ea, hx⟩ := Kd.at_int H.out.C (i) (by omega) (by omega)
    cases ea
    have q1 : (0 ≤ i) = True := eq_true (by omega)
    have q2 : (i < (b.length : Int)) = True := eq_true (by omega)
    by_cases t1 : Sc.blank (rd b i) = true
    · have hR : spc b i = true := by simp [spc, d2, t1]
      rw [hR]
      clear hR
      go_enter Try.func18, Try.ntmps18
      go_wp2_with (first | (go_at_call 22; (with_reducible refine (rblank_calls _ _).mono ?_); rintro e w1 ⟨rfl, n1, rfl⟩) | (go_at_call 20; (with_reducible refine (break_calls _ _ c0 b (by first | exact H.out.C | exact Kd.C_drewN H.out.C _ | exact Kd.C_drewN (Kd.C_drewN H.out.C _) _) H.out.cap H.out.len _ (by omega) (by omega)).mono ?_); rintro e w1 ⟨rfl, n1, rfl⟩))
      go_ret
      exact ⟨rfl, by repeat (first | exact dr0 _ | refine dr1 ?_ _)⟩
    · replace t1 : Sc.blank (rd b i) = false := by simpa using t1
      by_cases t2 : brk b i > 0
      · have t3 : decide (brk b i > 0) = true := decide_eq_true t2
        have hR : spc b i = true := by simp [spc, d2, t1, t2]
        rw [hR]
        clear hR t2
        go_enter Try.func18, Try.ntmps18
        go_wp2_with (first | (go_at_call 22; (with_reducible refine (rblank_calls _ _).mono ?_); rintro e w1 ⟨rfl, n1, rfl⟩) | (go_at_call 20; (with_reducible refine (break_calls _ _ c0 b (by first | exact H.out.C | exact Kd.C_drewN H.out.C _ | exact Kd.C_drewN (Kd.C_drewN H.out.C _) _) H.out.cap H.out.len _ (by omega) (by omega)).mono ?_); rintro e w1 ⟨rfl, n1, rfl⟩))
        go_ret
        exact ⟨rfl, by repeat (first | exact dr0 _ | refine dr1 ?_ _)⟩
      · have t3 : decide (brk b i > 0) = false := decide_eq_false t2
        have t4 : decide (0 < brk b i) = false := decide_eq_false t2
        have hR : spc b i = false := by simp [spc, d2, t1, t4]
        rw [hR]
        clear hR t2
        go_enter Try.func18, Try.ntmps18
        go_wp2_with (first | (go_at_call 22; (with_reducible refine (rblank_calls _ _).mono ?_); rintro e w1 ⟨rfl, n1, rfl⟩) | (go_at_call 20; (with_reducible refine (break_calls _ _ c0 b (by first | exact H.out.C | exact Kd.C_drewN H.out.C _ | exact Kd.C_drewN (Kd.C_drewN H.out.C _) _) H.out.cap H.out.len _ (by omega) (by omega)).mono ?_); rintro e w1 ⟨rfl, n1, rfl⟩))
        go_ret
        exact ⟨rfl, by repeat (first | exact dr0 _ | refine dr1 ?_ _)⟩
  · have d1 : decide (i ≥ (b.length : Int)) = true := decide_eq_true (by omega)
    have hR : spc b i = true := by simp [spc, show (b.length : Int) ≤ i by omega]
    rw [hR]
    clear hR
    go_enter Try.func18, Try.ntmps18
    go_wp2
    go_ret
    exact ⟨rfl, by repeat (first | exact dr0 _ | refine dr1 ?_ _)⟩

theorem rowEnd_calls (W : World) (g : Nat) (A0 : Option Addr) (c0 : Nat) (b : List Int) (at_ row op base : Int) (only : Bool) (text : Int) (V : Value) (hs : RQ W g A0 c0 b at_ row op base only text V) (i : Int) (h0 : 0 ≤ i) (h1 : i ≤ (b.length : Int)) :
    Calls Try.prog 23 #[.pointer (some ⟨g, 0, none⟩), .int .i64 i] W fun e w' => e = .returned (.int .i64 (line b i)) ∧ ∃ n, w' = W.drewN n := by
  have H := Aside0.mk hs
  have hc0 := hs.cell0
  have hl := hs.len
  clear hs
  go_enter Try.func23, Try.ntmps23
  go_wp2
  go_loopg [1] ((b.length : Int) - i).toNat (fun kq v w' => ∃ x : Int, v = .int .i64 x ∧ Aside0 (i ≤ x ∧ x ≤ (b.length : Int) ∧ line b x = line b i ∧ kq = ((b.length : Int) - x).toNat) ∧ Aside0 (∃ n, w' = W.drewN n))
  case atStart => exact ⟨i, rfl, ⟨⟨Int.le_refl _, h1, rfl, rfl⟩⟩, ⟨dr0 _⟩⟩
  case round =>
    obtain ⟨x, rfl, HX, ⟨n, rfl⟩⟩ := hrel
    have hx0 := HX.out.1
    have hx1 := HX.out.2.1
    by_cases l1 : x < (b.length : Int)
    · have d1 : decide (x < (b.length : Int)) = true := decide_eq_true l1
      have L1 := Aside0.mk l1
      by_cases p : (brk b x == 0) = true
      · have PX := Aside0.mk p
        skip
        all_goals
          go_wp2_with (first | (go_at_call 20; (with_reducible refine (break_calls _ _ c0 b (by first | exact H.out.C | exact Kd.C_drewN H.out.C _ | exact Kd.C_drewN (Kd.C_drewN H.out.C _) _) H.out.cap H.out.len _ (by omega) (by omega)).mono ?_); rintro e w1 ⟨rfl, n1, rfl⟩))
          go_roundg ((b.length : Int) - (x + 1)).toNat
          case measure => have := HX.out.2.2.2; have := L1.out; omega
          case rel => exact ⟨x + 1, rfl, ⟨⟨by omega, by have := L1.out; omega, by rw [← HX.out.2.2.1]; exact (upto_go L1.out PX.out).symm, rfl⟩⟩, ⟨by repeat (first | exact dr0 _ | refine dr1 ?_ _)⟩⟩
      · replace p : (brk b x == 0) = false := by simpa using p
        have PX := Aside0.mk p
        skip
        all_goals
          go_wp2_with (first | (go_at_call 20; (with_reducible refine (break_calls _ _ c0 b (by first | exact H.out.C | exact Kd.C_drewN H.out.C _ | exact Kd.C_drewN (Kd.C_drewN H.out.C _) _) H.out.cap H.out.len _ (by omega) (by omega)).mono ?_); rintro e w1 ⟨rfl, n1, rfl⟩))
          go_ret
          exact ⟨by rw [← HX.out.2.2.1, show line b x = x from upto_stop PX.out]; rfl, by repeat (first | exact dr0 _ | refine dr1 ?_ _)⟩
    · have d1 : decide (x < (b.length : Int)) = false := decide_eq_false l1
      have L1 := Aside0.mk l1
      clear l1
      go_wp2
      go_ret
      exact ⟨by rw [← HX.out.2.2.1, show line b x = x from upto_end (by have := L1.out; omega)]; rfl, by repeat (first | exact dr0 _ | refine dr1 ?_ _)⟩

end Go.Proofs.Ytagjfcogbnhmgaa.Rf
