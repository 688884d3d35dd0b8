/- The scanner's functions that only look: names with their signs, quoted texts, heads. -/
import Derived.Test.YthoogadfhopkfaaSC2
namespace Go.Proofs.Ythoogadfhopkfaa.Sc
open Go.RowKit Go.Proofs.Ythoogadfhopkfaa.Q Go.Proofs.YthoogadfhopkfaaW.PrintWords Go.Proofs.YthoogadfhopkfaaW.PrintLast Go.Proofs.YthoogadfhopkfaaW.PrintMore
attribute [local go_sem] max2_int min2_int max_two min_two max_three min_three max_four min_four
set_option linter.unusedVariables false
set_option linter.unusedSimpArgs false
set_option maxHeartbeats 8000000
set_option maxRecDepth 100000

theorem prop_calls (W : World) (g : Nat) (A0 : Option Addr) (c0 : Nat) (b : List Int) (at_ : Int) (V : Value) (op row base : Int) (dash : Bool) (hs : SQ W g A0 c0 b at_ V op row base dash) (h0 : 0 ≤ at_) (h1 : at_ < (b.length : Int)) :
    Calls Try.prog 41 #[.pointer (some ⟨g, 0, none⟩)] W fun e w' => e = .returned (.tuple #[.int .i64 (prop b at_).1, .int .i64 (prop b at_).2]) ∧ ∃ n, w' = W.drewN n := by
  have H := Aside0.mk hs
  have hc0 := hs.cell0
  have hc1 := hs.cell1
  have hl := hs.len
  clear hs
  obtain ⟨ad, ea, hx⟩ := Kd.at_int H.out.C at_ h0 h1
  cases ea
  have q1 : (0 ≤ at_) = True := eq_true h0
  have q2 : (at_ < (b.length : Int)) = True := eq_true h1
  have B0 := Aside0.mk h0
  have B1 := Aside0.mk h1
  by_cases k : rd b at_ = 33
  · have K := Aside0.mk k
    have he : prop b at_ = (14, tag b (at_ + 1)) := by simp [prop, k]
    rw [he]
    clear he k
    have k33 : (rd b at_ == 33) = true := beq_iff_eq.mpr K.out
    have k38 : (rd b at_ == 38) = false := beq_eq_false_iff_ne.mpr (by have := K.out; omega)
    have k42 : (rd b at_ == 42) = false := beq_eq_false_iff_ne.mpr (by have := K.out; omega)
    go_enter Try.func41, Try.ntmps41
    go_wp2
    go_quiet (fail)
    go_wp2
    go_loopg [3] ((b.length : Int) - at_).toNat (fun kq v w' => ∃ x : Int, v = .int .i64 x ∧ Aside0 (at_ + 1 ≤ x ∧ x ≤ (b.length : Int) ∧ tag b x = tag b (at_ + 1) ∧ kq = ((b.length : Int) - x).toNat + 1) ∧ Aside0 (∃ n, w' = W.drewN n))
    case atStart => exact ⟨at_ + 1, rfl, ⟨⟨Int.le_refl _, by have := B1.out; omega, rfl, by have := B1.out; omega⟩⟩, ⟨by repeat (first | exact dr0 _ | refine dr1 ?_ _)⟩⟩
    case round =>
      obtain ⟨x, rfl, HX, ⟨n, rfl⟩⟩ := hrel
      have hx0 := HX.out.1
      have hx1 := HX.out.2.1
      by_cases l1 : x < (b.length : Int)
      · have d1 : decide (x < (b.length : Int)) = true := decide_eq_true l1
        have L1 := Aside0.mk l1
        obtain ⟨ad2, ea2, hx2⟩ := Kd.at_int H.out.C x (by have := B0.out; omega) l1
        cases ea2
        have q1 : (0 ≤ x) = True := eq_true (by have := B0.out; omega)
        have q2 : (x < (b.length : Int)) = True := eq_true l1
        clear l1
        by_cases n : (name (rd b x) || rd b x == 33) = true
        · have N := Aside0.mk n
          have n0 : name (rd b x) = true ∨ (name (rd b x) = false ∧ (rd b x == 33) = true) := by cases h : name (rd b x) <;> simp_all
          clear n
          rcases n0 with n1 | ⟨n1, n2⟩
          all_goals
            go_wp2_with (first | (go_at_call 64; (with_reducible refine (name_calls _ _).mono ?_); rintro e w1 ⟨rfl, n1, rfl⟩))
            go_roundg (((b.length : Int) - (x + 1)).toNat + 1)
            case measure => have := HX.out.2.2.2; have := L1.out; omega
            case rel => exact ⟨x + 1, rfl, ⟨⟨by omega, by have := L1.out; omega, by rw [← HX.out.2.2.1]; exact (upto_go L1.out N.out).symm, rfl⟩⟩, ⟨by repeat (first | exact dr0 _ | refine dr1 ?_ _)⟩⟩
        · replace n : (name (rd b x) || rd b x == 33) = false := by simpa using n
          have N := Aside0.mk n
          obtain ⟨n1, n2⟩ : name (rd b x) = false ∧ (rd b x == 33) = false := by cases h : name (rd b x) <;> simp_all
          clear n
          go_wp2_with (first | (go_at_call 64; (with_reducible refine (name_calls _ _).mono ?_); rintro e w1 ⟨rfl, n1, rfl⟩))
          go_ret2
          exact ⟨by rw [← HX.out.2.2.1, show tag b x = x from upto_stop N.out]; rfl, by repeat (first | exact dr0 _ | refine dr1 ?_ _)⟩
      · have d1 : decide (x < (b.length : Int)) = false := decide_eq_false l1
        have L1 := Aside0.mk l1
        clear l1
        go_wp2
        go_ret2
        exact ⟨by rw [← HX.out.2.2.1, show tag b x = x from upto_end (by have := L1.out; omega)]; rfl, by repeat (first | exact dr0 _ | refine dr1 ?_ _)⟩
  · have K := Aside0.mk k
    have he : prop b at_ = if names b (at_ + 1) = at_ + 1 then (0, 0) else (if rd b at_ = 38 then 12 else if rd b at_ = 42 then 13 else 0, names b (at_ + 1)) := by simp [prop, k]
    generalize prop b at_ = R at *
    have HR := Aside0.mk he
    have k33 : (rd b at_ == 33) = false := beq_eq_false_iff_ne.mpr k
    clear he k
    by_cases c1 : rd b at_ = 38 <;> by_cases c2 : rd b at_ = 42 <;> by_cases c3 : names b (at_ + 1) = at_ + 1
    all_goals
      first | have e1 : (rd b at_ == 38) = true := beq_iff_eq.mpr c1 | have e1 : (rd b at_ == 38) = false := beq_eq_false_iff_ne.mpr c1
      first | have e2 : (rd b at_ == 42) = true := beq_iff_eq.mpr c2 | have e2 : (rd b at_ == 42) = false := beq_eq_false_iff_ne.mpr c2
      first | have e3 : (names b (at_ + 1) == at_ + 1) = true := beq_iff_eq.mpr c3 | have e3 : (names b (at_ + 1) == at_ + 1) = false := beq_eq_false_iff_ne.mpr c3
      have C := Aside0.mk (And.intro c1 (And.intro c2 c3))
      clear c1 c2 c3
      go_enter Try.func41, Try.ntmps41
      go_wp2
      go_quiet (fail)
      go_wp2_with (first | (go_at_call 65; (with_reducible refine (names_calls _ g _ c0 b at_ V op row base dash (by first | exact H.out | exact H.out.drewN _) _ (by have := B0.out; omega) (by have := B1.out; omega)).mono ?_); rintro e w1 ⟨rfl, n1, rfl⟩))
      go_ret2
      exact ⟨by rw [HR.out]; simp [C.out], by repeat (first | exact dr0 _ | refine dr1 ?_ _)⟩

end Go.Proofs.Ythoogadfhopkfaa.Sc
