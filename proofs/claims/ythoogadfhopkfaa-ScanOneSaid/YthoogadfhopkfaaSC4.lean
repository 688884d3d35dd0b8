/- The scanner's functions that only look: quoted texts, heads. -/
import Derived.Test.YthoogadfhopkfaaSC3
namespace Go.Proofs.Ythoogadfhopkfaa.Sc
open Go.RowKit Go.Proofs.Ythoogadfhopkfaa.Q Go.Proofs.YthoogadfhopkfaaW.PrintWords Go.Proofs.YthoogadfhopkfaaW.PrintLast Go.Proofs.YthoogadfhopkfaaW.PrintMore
attribute [local go_sem] max2_int min2_int max_two min_two max_three min_three max_four min_four
set_option linter.unusedVariables false
set_option linter.unusedSimpArgs false
set_option maxHeartbeats 8000000
set_option maxRecDepth 100000

theorem single_calls (W : World) (g : Nat) (A0 : Option Addr) (c0 : Nat) (b : List Int) (at_ : Int) (V : Value) (op row base : Int) (dash : Bool) (hs : SQ W g A0 c0 b at_ V op row base dash) (h0 : 0 ≤ at_) (h1 : at_ < (b.length : Int)) :
    Calls Try.prog 42 #[.pointer (some ⟨g, 0, none⟩)] W fun e w' => e = .returned (.int .i64 (single b at_)) ∧ ∃ n, w' = W.drewN n := by
  have H := Aside0.mk hs
  have hc0 := hs.cell0
  have hc1 := hs.cell1
  have hl := hs.len
  clear hs
  have B0 := Aside0.mk h0
  have B1 := Aside0.mk h1
  have hle := upto_le (n := (b.length : Int)) (i := at_) (p := fun j => brk b j == 0) (Int.le_of_lt h1)
  have e0 : at_ ≤ line b at_ := hle.1
  have e1 : line b at_ ≤ (b.length : Int) := hle.2
  clear hle
  have hR : single b at_ = sgl b (line b at_) (line b at_ - at_).toNat (at_ + 1) := rfl
  generalize single b at_ = R at *
  have HR := Aside0.mk hR
  clear hR
  go_enter Try.func42, Try.ntmps42
  go_wp2_with (first | (go_at_call 37; (with_reducible refine (line_calls _ g _ c0 b at_ V op row base dash (by first | exact H.out | exact H.out.drewN _) _ (by have := B0.out; omega) (by have := B1.out; omega)).mono ?_); rintro e w1 ⟨rfl, n1, rfl⟩))
  go_loopg [4] (line b at_ - at_).toNat (fun kq v w' => ∃ x : Int, v = .int .i64 x ∧ Aside0 (at_ + 1 ≤ x ∧ x ≤ line b at_ + 1 ∧ sgl b (line b at_) kq x = R ∧ line b at_ - x < (kq : Int)) ∧ Aside0 (∃ n, w' = W.drewN n))
  case atStart => exact ⟨at_ + 1, rfl, ⟨⟨Int.le_refl _, by omega, HR.out.symm, by omega⟩⟩, ⟨by repeat (first | exact dr0 _ | refine dr1 ?_ _)⟩⟩
  case round =>
    obtain ⟨x, rfl, HX, ⟨n, rfl⟩⟩ := hrel
    have hx0 := HX.out.1
    have hx1 := HX.out.2.1
    by_cases l1 : x < line b at_
    · have d1 : decide (x < line b at_) = true := decide_eq_true l1
      have L1 := Aside0.mk l1
      have l2 : x < (b.length : Int) := by omega
      obtain ⟨ad2, ea2, hx2⟩ := Kd.at_int H.out.C x (by omega) l2
      cases ea2
      have q1 : (0 ≤ x) = True := eq_true (by omega)
      have q2 : (x < (b.length : Int)) = True := eq_true l2
      have B2 := Aside0.mk l2
      obtain ⟨m, rfl⟩ : ∃ m, gk = m + 1 := ⟨gk - 1, by have := HX.out.2.2.2; omega⟩
      have HS := HX.out.2.2.1
      simp only [sgl] at HS
      rw [if_pos l1] at HS
      clear l1 l2
      by_cases c1 : rd b x = 39
      · have f1 : (rd b x == 39) = true := beq_iff_eq.mpr c1
        have f2 : (rd b x != 39) = false := bne_eq_false_iff_eq.mpr c1
        rw [if_pos c1] at HS
        clear c1
        by_cases t1 : th b (x + 1) 39 = true
        · rw [if_pos t1] at HS
          have T1 := Aside0.mk (th_true t1).1
          have HS2 := Aside0.mk HS
          clear HS
          go_wp2_with (first | (go_at_call 36; (with_reducible refine (there _ g _ c0 b at_ V op row base dash (by first | exact H.out | exact H.out.drewN _) _ _ (by omega)).mono ?_); rintro e w1 ⟨rfl, n1, rfl⟩))
          go_roundg m
          case measure => omega
          case rel => exact ⟨x + 2, by first | rfl | exact congrArg (Value.int .i64) (by omega), ⟨⟨by omega, by have := L1.out; omega, HS2.out, by have := HX.out.2.2.2; omega⟩⟩, ⟨by repeat (first | exact dr0 _ | refine dr1 ?_ _)⟩⟩
        · rw [if_neg t1] at HS
          replace t1 : th b (x + 1) 39 = false := by simpa using t1
          have HS2 := Aside0.mk HS
          clear HS
          go_wp2_with (first | (go_at_call 36; (with_reducible refine (there _ g _ c0 b at_ V op row base dash (by first | exact H.out | exact H.out.drewN _) _ _ (by omega)).mono ?_); rintro e w1 ⟨rfl, n1, rfl⟩))
          go_ret
          exact ⟨by rw [← HX.out.2.2.1, HX.out.2.2.1, ← HS2.out]; rfl, by repeat (first | exact dr0 _ | refine dr1 ?_ _)⟩
      · have f1 : (rd b x == 39) = false := beq_eq_false_iff_ne.mpr c1
        have f2 : (rd b x != 39) = true := bne_iff_ne.mpr c1
        rw [if_neg c1] at HS
        clear c1
        have HS2 := Aside0.mk HS
        clear HS
        go_wp2_with (first | (go_at_call 36; (with_reducible refine (there _ g _ c0 b at_ V op row base dash (by first | exact H.out | exact H.out.drewN _) _ _ (by omega)).mono ?_); rintro e w1 ⟨rfl, n1, rfl⟩))
        go_roundg m
        case measure => omega
        case rel => exact ⟨x + 1, by first | rfl | exact congrArg (Value.int .i64) (by omega), ⟨⟨by omega, by have := L1.out; omega, HS2.out, by have := HX.out.2.2.2; omega⟩⟩, ⟨by repeat (first | exact dr0 _ | refine dr1 ?_ _)⟩⟩
    · have d1 : decide (x < line b at_) = false := decide_eq_false l1
      have L1 := Aside0.mk l1
      clear l1
      have HS : sgl b (line b at_) gk x = line b at_ := by
        cases gk with
        | zero => rfl
        | succ m => simp only [sgl]; rw [if_neg (by have := L1.out; omega)]
      have HS2 := Aside0.mk HS
      clear HS
      go_wp2
      go_ret
      exact ⟨by rw [← HX.out.2.2.1, HS2.out]; rfl, by repeat (first | exact dr0 _ | refine dr1 ?_ _)⟩

theorem double_calls (W : World) (g : Nat) (A0 : Option Addr) (c0 : Nat) (b : List Int) (at_ : Int) (V : Value) (op row base : Int) (dash : Bool) (hs : SQ W g A0 c0 b at_ V op row base dash) (h0 : 0 ≤ at_) (h1 : at_ < (b.length : Int)) :
    Calls Try.prog 43 #[.pointer (some ⟨g, 0, none⟩)] W fun e w' => e = .returned (.int .i64 (double b at_)) ∧ ∃ n, w' = W.drewN n := by
  have H := Aside0.mk hs
  have hc0 := hs.cell0
  have hc1 := hs.cell1
  have hl := hs.len
  clear hs
  have B0 := Aside0.mk h0
  have B1 := Aside0.mk h1
  have hle := upto_le (n := (b.length : Int)) (i := at_) (p := fun j => brk b j == 0) (Int.le_of_lt h1)
  have e0 : at_ ≤ line b at_ := hle.1
  have e1 : line b at_ ≤ (b.length : Int) := hle.2
  clear hle
  have hR : double b at_ = dbl b (line b at_) (line b at_ - at_).toNat (at_ + 1) := rfl
  generalize double b at_ = R at *
  have HR := Aside0.mk hR
  clear hR
  go_enter Try.func43, Try.ntmps43
  go_wp2_with (first | (go_at_call 37; (with_reducible refine (line_calls _ g _ c0 b at_ V op row base dash (by first | exact H.out | exact H.out.drewN _) _ (by have := B0.out; omega) (by have := B1.out; omega)).mono ?_); rintro e w1 ⟨rfl, n1, rfl⟩))
  go_loopg [4] (line b at_ - at_).toNat (fun kq v w' => ∃ x : Int, v = .int .i64 x ∧ Aside0 (at_ + 1 ≤ x ∧ x ≤ line b at_ + 1 ∧ dbl b (line b at_) kq x = R ∧ line b at_ - x < (kq : Int)) ∧ Aside0 (∃ n, w' = W.drewN n))
  case atStart => exact ⟨at_ + 1, rfl, ⟨⟨Int.le_refl _, by omega, HR.out.symm, by omega⟩⟩, ⟨by repeat (first | exact dr0 _ | refine dr1 ?_ _)⟩⟩
  case round =>
    obtain ⟨x, rfl, HX, ⟨n, rfl⟩⟩ := hrel
    have hx0 := HX.out.1
    have hx1 := HX.out.2.1
    by_cases l1 : x < line b at_
    · have d1 : decide (x < line b at_) = true := decide_eq_true l1
      have L1 := Aside0.mk l1
      have l2 : x < (b.length : Int) := by omega
      obtain ⟨ad2, ea2, hx2⟩ := Kd.at_int H.out.C x (by omega) l2
      cases ea2
      have q1 : (0 ≤ x) = True := eq_true (by omega)
      have q2 : (x < (b.length : Int)) = True := eq_true l2
      have B2 := Aside0.mk l2
      obtain ⟨m, rfl⟩ : ∃ m, gk = m + 1 := ⟨gk - 1, by have := HX.out.2.2.2; omega⟩
      have HS := HX.out.2.2.1
      simp only [dbl] at HS
      rw [if_pos l1] at HS
      clear l1 l2
      by_cases c1 : rd b x = 34
      · have f1 : (rd b x == 34) = true := beq_iff_eq.mpr c1
        rw [if_pos c1] at HS
        clear c1
        have HS2 := Aside0.mk HS
        clear HS
        go_wp2
        go_ret
        exact ⟨by rw [← HX.out.2.2.1, HX.out.2.2.1, ← HS2.out]; rfl, by repeat (first | exact dr0 _ | refine dr1 ?_ _)⟩
      · have f1 : (rd b x == 34) = false := beq_eq_false_iff_ne.mpr c1
        rw [if_neg c1] at HS
        by_cases c2 : rd b x = 92
        · have f2 : (rd b x == 92) = true := beq_iff_eq.mpr c2
          rw [if_pos c2] at HS
          clear c1 c2
          have HS2 := Aside0.mk HS
          clear HS
          go_wp2
          go_roundg m
          case measure => omega
          case rel => exact ⟨x + 2, by first | rfl | exact congrArg (Value.int .i64) (by omega), ⟨⟨by omega, by have := L1.out; omega, HS2.out, by have := HX.out.2.2.2; omega⟩⟩, ⟨by repeat (first | exact dr0 _ | refine dr1 ?_ _)⟩⟩
        · have f2 : (rd b x == 92) = false := beq_eq_false_iff_ne.mpr c2
          rw [if_neg c2] at HS
          clear c1 c2
          have HS2 := Aside0.mk HS
          clear HS
          go_wp2
          go_roundg m
          case measure => omega
          case rel => exact ⟨x + 1, by first | rfl | exact congrArg (Value.int .i64) (by omega), ⟨⟨by omega, by have := L1.out; omega, HS2.out, by have := HX.out.2.2.2; omega⟩⟩, ⟨by repeat (first | exact dr0 _ | refine dr1 ?_ _)⟩⟩
    · have d1 : decide (x < line b at_) = false := decide_eq_false l1
      have L1 := Aside0.mk l1
      clear l1
      have HS : dbl b (line b at_) gk x = line b at_ := by
        cases gk with
        | zero => rfl
        | succ m => simp only [dbl]; rw [if_neg (by have := L1.out; omega)]
      have HS2 := Aside0.mk HS
      clear HS
      go_wp2
      go_ret
      exact ⟨by rw [← HX.out.2.2.1, HS2.out]; rfl, by repeat (first | exact dr0 _ | refine dr1 ?_ _)⟩

end Go.Proofs.Ythoogadfhopkfaa.Sc
