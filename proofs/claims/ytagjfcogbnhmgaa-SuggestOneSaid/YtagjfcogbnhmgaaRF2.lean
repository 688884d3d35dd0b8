/- The reference's scanner: marks, colons, names, quoted texts. -/
import Derived.Test.YtagjfcogbnhmgaaRF1
namespace Go.Proofs.Ytagjfcogbnhmgaa.Rf
open Go.RowKit Go.Proofs.Ytagjfcogbnhmgaa.Q Go.Proofs.YtagjfcogbnhmgaaW.PrintWords Go.Proofs.YtagjfcogbnhmgaaW.PrintLast Go.Proofs.YtagjfcogbnhmgaaW.PrintMore Go.Proofs.Ytagjfcogbnhmgaa.Sc Go.Proofs.Ytagjfcogbnhmgaa.Pure
attribute [local go_sem] max2_int min2_int max_two min_two max_three min_three max_four min_four
set_option linter.unusedVariables false
set_option linter.unusedSimpArgs false
set_option maxHeartbeats 1000000
set_option maxRecDepth 100000

theorem mark_calls (W : World) (g : Nat) (A0 : Option Addr) (c0 : Nat) (b : List Int) (at_ row op base : Int) (only : Bool) (text : Int) (V : Value) (hs : RQ W g A0 c0 b at_ row op base only text V) (i : Int) (h0 : 0 ≤ i) (h1 : i ≤ (b.length : Int)) :
    Calls Try.prog 9 #[.pointer (some ⟨g, 0, none⟩), .int .i64 i] W fun e w' => e = .returned (.int .i64 (markR b i)) ∧ ∃ n, w' = W.drewN n := by
  have H := Aside0.mk hs
  have hc0 := hs.cell0
  have hl := hs.len
  clear hs
  by_cases l1 : (b.length : Int) < i + 3
  · have d1 : decide (i + 3 > (b.length : Int)) = true := decide_eq_true l1
    have hR : markR b i = 0 := by unfold markR; rw [if_pos (.inl l1)]
    rw [hR]
    clear hR
    go_enter Try.func9, Try.ntmps9
    go_wp2_with (first | (go_at_call 17; (with_reducible refine (byteAt_calls _ g _ c0 b at_ row op base only text V (by first | exact H.out | exact H.out.drewN _ | exact (H.out.drewN _).drewN _) _).mono ?_); rintro e w1 ⟨rfl, n1, rfl⟩) | (go_at_call 18; (with_reducible refine (ended_calls _ g _ c0 b at_ row op base only text V (by first | exact H.out | exact H.out.drewN _ | exact (H.out.drewN _).drewN _) _ (by omega)).mono ?_); rintro e w1 ⟨rfl, n1, rfl⟩))
    go_ret
    exact ⟨rfl, by repeat (first | exact dr0 _ | refine dr1 ?_ _)⟩
  · have d1 : decide (i + 3 > (b.length : Int)) = false := decide_eq_false (by omega)
    obtain ⟨ad1, ea1, hx1⟩ := Kd.at_int H.out.C (i + 1) (by omega) (by omega)
    cases ea1
    have q11 : (0 ≤ i + 1) = True := eq_true (by omega)
    have q21 : (i + 1 < (b.length : Int)) = True := eq_true (by omega)
    obtain ⟨ad2, ea2, hx2⟩ := Kd.at_int H.out.C (i + 2) (by omega) (by omega)
    cases ea2
    have q12 : (0 ≤ i + 2) = True := eq_true (by omega)
    have q22 : (i + 2 < (b.length : Int)) = True := eq_true (by omega)
    by_cases m1 : rd b (i + 1) = ba b i
    · have e1 : (rd b (i + 1) != ba b i) = false := bne_eq_false_iff_eq.mpr m1
      by_cases m2 : rd b (i + 2) = ba b i
      · have e2 : (rd b (i + 2) != ba b i) = false := bne_eq_false_iff_eq.mpr m2
        by_cases t1 : spc b (i + 3) = true
        · by_cases c1 : ba b i = 45
          · have e3 : (ba b i == 45) = true := beq_iff_eq.mpr c1
            have hR : markR b i = 20 := by unfold markR; rw [if_neg (fun h => h.elim l1 (fun h => h.elim (fun h => h m1) (fun h => h.elim (fun h => h m2) (fun h => by rw [t1] at h; cases h)))), if_pos c1]
            rw [hR]
            clear hR m1 m2 c1
            go_enter Try.func9, Try.ntmps9
            go_wp2_with (first | (go_at_call 17; (with_reducible refine (byteAt_calls _ g _ c0 b at_ row op base only text V (by first | exact H.out | exact H.out.drewN _ | exact (H.out.drewN _).drewN _) _).mono ?_); rintro e w1 ⟨rfl, n1, rfl⟩) | (go_at_call 18; (with_reducible refine (ended_calls _ g _ c0 b at_ row op base only text V (by first | exact H.out | exact H.out.drewN _ | exact (H.out.drewN _).drewN _) _ (by omega)).mono ?_); rintro e w1 ⟨rfl, n1, rfl⟩))
            go_ret
            exact ⟨rfl, by repeat (first | exact dr0 _ | refine dr1 ?_ _)⟩
          · have e3 : (ba b i == 45) = false := beq_eq_false_iff_ne.mpr c1
            by_cases c2 : ba b i = 46
            · have e4 : (ba b i == 46) = true := beq_iff_eq.mpr c2
              have hR : markR b i = 21 := by unfold markR; rw [if_neg (fun h => h.elim l1 (fun h => h.elim (fun h => h m1) (fun h => h.elim (fun h => h m2) (fun h => by rw [t1] at h; cases h)))), if_neg c1, if_pos c2]
              rw [hR]
              clear hR m1 m2 c1 c2
              go_enter Try.func9, Try.ntmps9
              go_wp2_with (first | (go_at_call 17; (with_reducible refine (byteAt_calls _ g _ c0 b at_ row op base only text V (by first | exact H.out | exact H.out.drewN _ | exact (H.out.drewN _).drewN _) _).mono ?_); rintro e w1 ⟨rfl, n1, rfl⟩) | (go_at_call 18; (with_reducible refine (ended_calls _ g _ c0 b at_ row op base only text V (by first | exact H.out | exact H.out.drewN _ | exact (H.out.drewN _).drewN _) _ (by omega)).mono ?_); rintro e w1 ⟨rfl, n1, rfl⟩))
              go_ret
              exact ⟨rfl, by repeat (first | exact dr0 _ | refine dr1 ?_ _)⟩
            · have e4 : (ba b i == 46) = false := beq_eq_false_iff_ne.mpr c2
              have hR : markR b i = 0 := by unfold markR; rw [if_neg (fun h => h.elim l1 (fun h => h.elim (fun h => h m1) (fun h => h.elim (fun h => h m2) (fun h => by rw [t1] at h; cases h)))), if_neg c1, if_neg c2]
              rw [hR]
              clear hR m1 m2 c1 c2
              go_enter Try.func9, Try.ntmps9
              go_wp2_with (first | (go_at_call 17; (with_reducible refine (byteAt_calls _ g _ c0 b at_ row op base only text V (by first | exact H.out | exact H.out.drewN _ | exact (H.out.drewN _).drewN _) _).mono ?_); rintro e w1 ⟨rfl, n1, rfl⟩) | (go_at_call 18; (with_reducible refine (ended_calls _ g _ c0 b at_ row op base only text V (by first | exact H.out | exact H.out.drewN _ | exact (H.out.drewN _).drewN _) _ (by omega)).mono ?_); rintro e w1 ⟨rfl, n1, rfl⟩))
              go_ret
              exact ⟨rfl, by repeat (first | exact dr0 _ | refine dr1 ?_ _)⟩
        · replace t1 : spc b (i + 3) = false := by simpa using t1
          have hR : markR b i = 0 := by unfold markR; rw [if_pos (.inr (.inr (.inr t1)))]
          rw [hR]
          clear hR m1 m2
          go_enter Try.func9, Try.ntmps9
          go_wp2_with (first | (go_at_call 17; (with_reducible refine (byteAt_calls _ g _ c0 b at_ row op base only text V (by first | exact H.out | exact H.out.drewN _ | exact (H.out.drewN _).drewN _) _).mono ?_); rintro e w1 ⟨rfl, n1, rfl⟩) | (go_at_call 18; (with_reducible refine (ended_calls _ g _ c0 b at_ row op base only text V (by first | exact H.out | exact H.out.drewN _ | exact (H.out.drewN _).drewN _) _ (by omega)).mono ?_); rintro e w1 ⟨rfl, n1, rfl⟩))
          go_ret
          exact ⟨rfl, by repeat (first | exact dr0 _ | refine dr1 ?_ _)⟩
      · have e2 : (rd b (i + 2) != ba b i) = true := bne_iff_ne.mpr m2
        have hR : markR b i = 0 := by unfold markR; rw [if_pos (.inr (.inr (.inl m2)))]
        rw [hR]
        clear hR m1 m2
        go_enter Try.func9, Try.ntmps9
        go_wp2_with (first | (go_at_call 17; (with_reducible refine (byteAt_calls _ g _ c0 b at_ row op base only text V (by first | exact H.out | exact H.out.drewN _ | exact (H.out.drewN _).drewN _) _).mono ?_); rintro e w1 ⟨rfl, n1, rfl⟩) | (go_at_call 18; (with_reducible refine (ended_calls _ g _ c0 b at_ row op base only text V (by first | exact H.out | exact H.out.drewN _ | exact (H.out.drewN _).drewN _) _ (by omega)).mono ?_); rintro e w1 ⟨rfl, n1, rfl⟩))
        go_ret
        exact ⟨rfl, by repeat (first | exact dr0 _ | refine dr1 ?_ _)⟩
    · have e1 : (rd b (i + 1) != ba b i) = true := bne_iff_ne.mpr m1
      have hR : markR b i = 0 := by unfold markR; rw [if_pos (.inr (.inl m1))]
      rw [hR]
      clear hR m1
      go_enter Try.func9, Try.ntmps9
      go_wp2_with (first | (go_at_call 17; (with_reducible refine (byteAt_calls _ g _ c0 b at_ row op base only text V (by first | exact H.out | exact H.out.drewN _ | exact (H.out.drewN _).drewN _) _).mono ?_); rintro e w1 ⟨rfl, n1, rfl⟩) | (go_at_call 18; (with_reducible refine (ended_calls _ g _ c0 b at_ row op base only text V (by first | exact H.out | exact H.out.drewN _ | exact (H.out.drewN _).drewN _) _ (by omega)).mono ?_); rintro e w1 ⟨rfl, n1, rfl⟩))
      go_ret
      exact ⟨rfl, by repeat (first | exact dr0 _ | refine dr1 ?_ _)⟩

theorem colon_calls (W : World) (g : Nat) (A0 : Option Addr) (c0 : Nat) (b : List Int) (at_ row op base : Int) (only : Bool) (text : Int) (V : Value) (hs : RQ W g A0 c0 b at_ row op base only text V) (i : Int) (h0 : 0 ≤ i) (h1 : i ≤ (b.length : Int)) :
    Calls Try.prog 26 #[.pointer (some ⟨g, 0, none⟩), .int .i64 i] W fun e w' => e = .returned (.bool (colon b op i)) ∧ ∃ n, w' = W.drewN n := by
  have H := Aside0.mk hs
  have hc0 := hs.cell0
  have hc3 := hs.cell3
  have hl := hs.len
  clear hs
  by_cases l1 : i < (b.length : Int)
  · have d1 : decide (i < (b.length : Int)) = true := decide_eq_true l1
    have hb : ba b i = rd b i := by unfold ba; rw [if_pos ⟨h0, l1⟩]
    by_cases c1 : rd b i = 58
    · have e1 : (ba b i == 58) = true := by rw [hb, c1]; rfl
      have ht : th b i 58 = true := by simp [th, l1, c1]
      by_cases t1 : spc b (i + 1) = true
      · have hR : colon b op i = true := by simp [colon, ht, t1]
        rw [hR]
        clear hR c1 hb ht
        go_enter Try.func26, Try.ntmps26
        go_wp2_with (first | (go_at_call 17; (with_reducible refine (byteAt_calls _ g _ c0 b at_ row op base only text V (by first | exact H.out | exact H.out.drewN _ | exact (H.out.drewN _).drewN _) _).mono ?_); rintro e w1 ⟨rfl, n1, rfl⟩) | (go_at_call 18; (with_reducible refine (ended_calls _ g _ c0 b at_ row op base only text V (by first | exact H.out | exact H.out.drewN _ | exact (H.out.drewN _).drewN _) _ (by omega)).mono ?_); rintro e w1 ⟨rfl, n1, rfl⟩) | (go_at_call 37; (with_reducible refine (rflow_calls _ _).mono ?_); rintro e w1 ⟨rfl, n1, rfl⟩))
        go_ret
        exact ⟨rfl, by repeat (first | exact dr0 _ | refine dr1 ?_ _)⟩
      · replace t1 : spc b (i + 1) = false := by simpa using t1
        have l2 : i + 1 < (b.length : Int) := spc_false t1
        have hb2 : ba b (i + 1) = rd b (i + 1) := by unfold ba; rw [if_pos ⟨by omega, l2⟩]
        by_cases o1 : op > 0
        · have d2 : decide (op > 0) = true := decide_eq_true o1
          have d3 : decide (0 < op) = true := decide_eq_true o1
          have hR : colon b op i = flow (ba b (i + 1)) := by simp [colon, ht, t1, d3, hb2]
          rw [hR]
          clear hR c1 hb hb2 ht o1
          go_enter Try.func26, Try.ntmps26
          go_wp2_with (first | (go_at_call 17; (with_reducible refine (byteAt_calls _ g _ c0 b at_ row op base only text V (by first | exact H.out | exact H.out.drewN _ | exact (H.out.drewN _).drewN _) _).mono ?_); rintro e w1 ⟨rfl, n1, rfl⟩) | (go_at_call 18; (with_reducible refine (ended_calls _ g _ c0 b at_ row op base only text V (by first | exact H.out | exact H.out.drewN _ | exact (H.out.drewN _).drewN _) _ (by omega)).mono ?_); rintro e w1 ⟨rfl, n1, rfl⟩) | (go_at_call 37; (with_reducible refine (rflow_calls _ _).mono ?_); rintro e w1 ⟨rfl, n1, rfl⟩))
          go_ret
          exact ⟨rfl, by repeat (first | exact dr0 _ | refine dr1 ?_ _)⟩
        · have d2 : decide (op > 0) = false := decide_eq_false o1
          have d3 : decide (0 < op) = false := decide_eq_false o1
          have hR : colon b op i = false := by simp [colon, ht, t1, d3]
          rw [hR]
          clear hR c1 hb hb2 ht o1
          go_enter Try.func26, Try.ntmps26
          go_wp2_with (first | (go_at_call 17; (with_reducible refine (byteAt_calls _ g _ c0 b at_ row op base only text V (by first | exact H.out | exact H.out.drewN _ | exact (H.out.drewN _).drewN _) _).mono ?_); rintro e w1 ⟨rfl, n1, rfl⟩) | (go_at_call 18; (with_reducible refine (ended_calls _ g _ c0 b at_ row op base only text V (by first | exact H.out | exact H.out.drewN _ | exact (H.out.drewN _).drewN _) _ (by omega)).mono ?_); rintro e w1 ⟨rfl, n1, rfl⟩) | (go_at_call 37; (with_reducible refine (rflow_calls _ _).mono ?_); rintro e w1 ⟨rfl, n1, rfl⟩))
          go_ret
          exact ⟨rfl, by repeat (first | exact dr0 _ | refine dr1 ?_ _)⟩
    · have e1 : (ba b i == 58) = false := beq_eq_false_iff_ne.mpr (by rw [hb]; exact c1)
      have hR : colon b op i = false := by simp [colon, th, c1]
      rw [hR]
      clear hR c1 hb
      go_enter Try.func26, Try.ntmps26
      go_wp2_with (first | (go_at_call 17; (with_reducible refine (byteAt_calls _ g _ c0 b at_ row op base only text V (by first | exact H.out | exact H.out.drewN _ | exact (H.out.drewN _).drewN _) _).mono ?_); rintro e w1 ⟨rfl, n1, rfl⟩) | (go_at_call 18; (with_reducible refine (ended_calls _ g _ c0 b at_ row op base only text V (by first | exact H.out | exact H.out.drewN _ | exact (H.out.drewN _).drewN _) _ (by omega)).mono ?_); rintro e w1 ⟨rfl, n1, rfl⟩) | (go_at_call 37; (with_reducible refine (rflow_calls _ _).mono ?_); rintro e w1 ⟨rfl, n1, rfl⟩))
      go_ret
      exact ⟨rfl, by repeat (first | exact dr0 _ | refine dr1 ?_ _)⟩
  · have d1 : decide (i < (b.length : Int)) = false := decide_eq_false l1
    have hb : ba b i = 0 := by unfold ba; rw [if_neg (fun h => l1 h.2)]
    have e1 : (ba b i == 58) = false := by rw [hb]; rfl
    have hR : colon b op i = false := by simp [colon, th, l1]
    rw [hR]
    clear hR hb
    go_enter Try.func26, Try.ntmps26
    go_wp2_with (first | (go_at_call 17; (with_reducible refine (byteAt_calls _ g _ c0 b at_ row op base only text V (by first | exact H.out | exact H.out.drewN _ | exact (H.out.drewN _).drewN _) _).mono ?_); rintro e w1 ⟨rfl, n1, rfl⟩) | (go_at_call 18; (with_reducible refine (ended_calls _ g _ c0 b at_ row op base only text V (by first | exact H.out | exact H.out.drewN _ | exact (H.out.drewN _).drewN _) _ (by omega)).mono ?_); rintro e w1 ⟨rfl, n1, rfl⟩) | (go_at_call 37; (with_reducible refine (rflow_calls _ _).mono ?_); rintro e w1 ⟨rfl, n1, rfl⟩))
    go_ret
    exact ⟨rfl, by repeat (first | exact dr0 _ | refine dr1 ?_ _)⟩

theorem namesF_calls (W : World) (g : Nat) (A0 : Option Addr) (c0 : Nat) (b : List Int) (at_ row op base : Int) (only : Bool) (text : Int) (V : Value) (hs : RQ W g A0 c0 b at_ row op base only text V) (i : Int) (h0 : 0 ≤ i) (h1 : i ≤ (b.length : Int)) :
    Calls Try.prog 25 #[.pointer (some ⟨g, 0, none⟩), .int .i64 i, .bool false] W fun e w' => e = .returned (.int .i64 (namesR b i false)) ∧ ∃ n, w' = W.drewN n := by
  have H := Aside0.mk hs
  have hc0 := hs.cell0
  have hl := hs.len
  clear hs
  go_enter Try.func25, Try.ntmps25
  go_wp2
  go_loopg [1] ((b.length : Int) - i).toNat (fun kq v w' => ∃ x : Int, v = .int .i64 x ∧ Aside0 (i ≤ x ∧ x ≤ (b.length : Int) ∧ namesR b x false = namesR b i false ∧ kq = ((b.length : Int) - x).toNat) ∧ Aside0 (∃ n, w' = W.drewN n))
  case atStart => exact ⟨i, rfl, ⟨⟨Int.le_refl _, h1, rfl, rfl⟩⟩, ⟨dr0 _⟩⟩
  case round =>
    obtain ⟨x, rfl, HX, ⟨n, rfl⟩⟩ := hrel
    have hx0 := HX.out.1
    have hx1 := HX.out.2.1
    by_cases l1 : x < (b.length : Int)
    · have d1 : decide (x < (b.length : Int)) = true := decide_eq_true l1
      have L1 := Aside0.mk l1
      obtain ⟨ad, ea, hx⟩ := Kd.at_int H.out.C (x) (by omega) l1
      cases ea
      have q1 : (0 ≤ x) = True := eq_true (by omega)
      have q2 : (x < (b.length : Int)) = True := eq_true (by omega)
      by_cases p : (name (rd b x) || (false && rd b x == 33)) = true
      · have PX := Aside0.mk p
        have p2 : name (rd b x) = true := by simpa using p
        clear p
        all_goals
          go_wp2_with (first | (go_at_call 36; (with_reducible refine (rname_calls _ _).mono ?_); rintro e w1 ⟨rfl, n1, rfl⟩))
          go_roundg ((b.length : Int) - (x + 1)).toNat
          case measure => have := HX.out.2.2.2; have := L1.out; omega
          case rel => exact ⟨x + 1, rfl, ⟨⟨by omega, by have := L1.out; omega, by rw [← HX.out.2.2.1]; exact (upto_go L1.out PX.out).symm, rfl⟩⟩, ⟨by repeat (first | exact dr0 _ | refine dr1 ?_ _)⟩⟩
      · replace p : (name (rd b x) || (false && rd b x == 33)) = false := by simpa using p
        have PX := Aside0.mk p
        have p2 : name (rd b x) = false := by cases h1_ : name (rd b x) <;> simp_all
        clear p
        all_goals
          go_wp2_with (first | (go_at_call 36; (with_reducible refine (rname_calls _ _).mono ?_); rintro e w1 ⟨rfl, n1, rfl⟩))
          go_ret
          exact ⟨by rw [← HX.out.2.2.1, show namesR b x false = x from upto_stop PX.out]; rfl, by repeat (first | exact dr0 _ | refine dr1 ?_ _)⟩
    · have d1 : decide (x < (b.length : Int)) = false := decide_eq_false l1
      have L1 := Aside0.mk l1
      clear l1
      go_wp2
      go_ret
      exact ⟨by rw [← HX.out.2.2.1, show namesR b x false = x from upto_end (by have := L1.out; omega)]; rfl, by repeat (first | exact dr0 _ | refine dr1 ?_ _)⟩

theorem namesT_calls (W : World) (g : Nat) (A0 : Option Addr) (c0 : Nat) (b : List Int) (at_ row op base : Int) (only : Bool) (text : Int) (V : Value) (hs : RQ W g A0 c0 b at_ row op base only text V) (i : Int) (h0 : 0 ≤ i) (h1 : i ≤ (b.length : Int)) :
    Calls Try.prog 25 #[.pointer (some ⟨g, 0, none⟩), .int .i64 i, .bool true] W fun e w' => e = .returned (.int .i64 (namesR b i true)) ∧ ∃ n, w' = W.drewN n := by
  have H := Aside0.mk hs
  have hc0 := hs.cell0
  have hl := hs.len
  clear hs
  go_enter Try.func25, Try.ntmps25
  go_wp2
  go_loopg [1] ((b.length : Int) - i).toNat (fun kq v w' => ∃ x : Int, v = .int .i64 x ∧ Aside0 (i ≤ x ∧ x ≤ (b.length : Int) ∧ namesR b x true = namesR b i true ∧ kq = ((b.length : Int) - x).toNat) ∧ Aside0 (∃ n, w' = W.drewN n))
  case atStart => exact ⟨i, rfl, ⟨⟨Int.le_refl _, h1, rfl, rfl⟩⟩, ⟨dr0 _⟩⟩
  case round =>
    obtain ⟨x, rfl, HX, ⟨n, rfl⟩⟩ := hrel
    have hx0 := HX.out.1
    have hx1 := HX.out.2.1
    by_cases l1 : x < (b.length : Int)
    · have d1 : decide (x < (b.length : Int)) = true := decide_eq_true l1
      have L1 := Aside0.mk l1
      obtain ⟨ad, ea, hx⟩ := Kd.at_int H.out.C (x) (by omega) l1
      cases ea
      have q1 : (0 ≤ x) = True := eq_true (by omega)
      have q2 : (x < (b.length : Int)) = True := eq_true (by omega)
      by_cases p : (name (rd b x) || (true && rd b x == 33)) = true
      · have PX := Aside0.mk p
        have p2 : name (rd b x) = true ∨ (name (rd b x) = false ∧ (rd b x == 33) = true) := by cases h1_ : name (rd b x) <;> simp_all
        clear p
        rcases p2 with p2 | ⟨p2, p4⟩
        all_goals
          go_wp2_with (first | (go_at_call 36; (with_reducible refine (rname_calls _ _).mono ?_); rintro e w1 ⟨rfl, n1, rfl⟩))
          go_roundg ((b.length : Int) - (x + 1)).toNat
          case measure => have := HX.out.2.2.2; have := L1.out; omega
          case rel => exact ⟨x + 1, rfl, ⟨⟨by omega, by have := L1.out; omega, by rw [← HX.out.2.2.1]; exact (upto_go L1.out PX.out).symm, rfl⟩⟩, ⟨by repeat (first | exact dr0 _ | refine dr1 ?_ _)⟩⟩
      · replace p : (name (rd b x) || (true && rd b x == 33)) = false := by simpa using p
        have PX := Aside0.mk p
        have p2 : name (rd b x) = false ∧ (rd b x == 33) = false := by cases h1_ : name (rd b x) <;> simp_all
        clear p
        obtain ⟨p2, p4⟩ := p2
        all_goals
          go_wp2_with (first | (go_at_call 36; (with_reducible refine (rname_calls _ _).mono ?_); rintro e w1 ⟨rfl, n1, rfl⟩))
          go_ret
          exact ⟨by rw [← HX.out.2.2.1, show namesR b x true = x from upto_stop PX.out]; rfl, by repeat (first | exact dr0 _ | refine dr1 ?_ _)⟩
    · have d1 : decide (x < (b.length : Int)) = false := decide_eq_false l1
      have L1 := Aside0.mk l1
      clear l1
      go_wp2
      go_ret
      exact ⟨by rw [← HX.out.2.2.1, show namesR b x true = x from upto_end (by have := L1.out; omega)]; rfl, by repeat (first | exact dr0 _ | refine dr1 ?_ _)⟩

theorem single_calls (W : World) (g : Nat) (A0 : Option Addr) (c0 : Nat) (b : List Int) (at_ row op base : Int) (only : Bool) (text : Int) (V : Value) (hs : RQ W g A0 c0 b at_ row op base only text V) (i en : Int) (h0 : 0 ≤ i) (h1 : en ≤ (b.length : Int)) :
    Calls Try.prog 27 #[.pointer (some ⟨g, 0, none⟩), .int .i64 i, .int .i64 en] W fun e w' => e = .returned (.int .i64 (singleR b i en)) ∧ ∃ n, w' = W.drewN n := by
  have H := Aside0.mk hs
  have hc0 := hs.cell0
  have hl := hs.len
  clear hs
  have hR : singleR b i en = sglR b en (en - i).toNat i := rfl
  generalize singleR b i en = R at *
  have HR := Aside0.mk hR
  clear hR
  go_enter Try.func27, Try.ntmps27
  go_wp2
  go_loopg [1] (en - i).toNat (fun kq v w' => ∃ x : Int, v = .int .i64 x ∧ Aside0 (i ≤ x ∧ (x ≤ en + 1 ∨ x = i) ∧ sglR b en kq x = R ∧ en - x ≤ (kq : Int)) ∧ Aside0 (∃ n, w' = W.drewN n))
  case atStart => exact ⟨i, rfl, ⟨⟨Int.le_refl _, .inr rfl, HR.out.symm, by omega⟩⟩, ⟨by repeat (first | exact dr0 _ | refine dr1 ?_ _)⟩⟩
  case round =>
    obtain ⟨x, rfl, HX, ⟨n, rfl⟩⟩ := hrel
    have hx0 := HX.out.1
    by_cases l1 : x < en
    · have d1 : decide (x < en) = true := decide_eq_true l1
      have L1 := Aside0.mk l1
      have l2 : x < (b.length : Int) := by omega
      obtain ⟨ad2, ea2, hx2⟩ := Kd.at_int H.out.C (x) (by omega) l2
      cases ea2
      have q12 : (0 ≤ x) = True := eq_true (by omega)
      have q22 : (x < (b.length : Int)) = True := eq_true (by omega)
      obtain ⟨m, rfl⟩ : ∃ m, gk = m + 1 := ⟨gk - 1, by have := HX.out.2.2.2; omega⟩
      have HS := HX.out.2.2.1
      simp only [sglR] at HS
      rw [if_pos l1] at HS
      by_cases c1 : rd b x = 39
      · have f1 : (rd b x == 39) = true := beq_iff_eq.mpr c1
        have f2 : (rd b x != 39) = false := bne_eq_false_iff_eq.mpr c1
        rw [if_pos c1] at HS
        clear c1
        by_cases l3 : x + 1 < en
        · have d3 : decide (x + 1 < en) = true := decide_eq_true l3
          obtain ⟨ad3, ea3, hx3⟩ := Kd.at_int H.out.C (x + 1) (by omega) (by omega)
          cases ea3
          have q13 : (0 ≤ x + 1) = True := eq_true (by omega)
          have q23 : (x + 1 < (b.length : Int)) = True := eq_true (by omega)
          by_cases c2 : rd b (x + 1) = 39
          · have f3 : (rd b (x + 1) == 39) = true := beq_iff_eq.mpr c2
            rw [if_pos ⟨l3, c2⟩] at HS
            clear c2
            have HS2 := Aside0.mk HS
            clear HS
            go_wp2
            go_roundg m
            case measure => omega
            case rel => exact ⟨x + 2, by first | rfl | exact congrArg (Value.int .i64) (by omega), ⟨⟨by omega, .inl (by have := L1.out; omega), HS2.out, by have := HX.out.2.2.2; omega⟩⟩, ⟨by repeat (first | exact dr0 _ | refine dr1 ?_ _)⟩⟩
          · have f3 : (rd b (x + 1) == 39) = false := beq_eq_false_iff_ne.mpr c2
            rw [if_neg (fun h => c2 h.2)] at HS
            clear c2
            have HS2 := Aside0.mk HS
            clear HS
            go_wp2
            go_ret
            exact ⟨by rw [← HX.out.2.2.1, HX.out.2.2.1, ← HS2.out]; rfl, by repeat (first | exact dr0 _ | refine dr1 ?_ _)⟩
        · have d3 : decide (x + 1 < en) = false := decide_eq_false l3
          rw [if_neg (fun h => l3 h.1)] at HS
          have HS2 := Aside0.mk HS
          clear HS
          go_wp2
          go_ret
          exact ⟨by rw [← HX.out.2.2.1, HX.out.2.2.1, ← HS2.out]; rfl, by repeat (first | exact dr0 _ | refine dr1 ?_ _)⟩
      · have f1 : (rd b x == 39) = false := beq_eq_false_iff_ne.mpr c1
        have f2 : (rd b x != 39) = true := bne_iff_ne.mpr c1
        rw [if_neg c1] at HS
        clear c1
        have HS2 := Aside0.mk HS
        clear HS
        go_wp2
        go_roundg m
        case measure => omega
        case rel => exact ⟨x + 1, by first | rfl | exact congrArg (Value.int .i64) (by omega), ⟨⟨by omega, .inl (by have := L1.out; omega), HS2.out, by have := HX.out.2.2.2; omega⟩⟩, ⟨by repeat (first | exact dr0 _ | refine dr1 ?_ _)⟩⟩
    · have d1 : decide (x < en) = false := decide_eq_false l1
      have L1 := Aside0.mk l1
      clear l1
      have HS : sglR b en gk x = en := by
        cases gk with
        | zero => rfl
        | succ m => simp only [sglR]; rw [if_neg (by have := L1.out; omega)]
      have HS2 := Aside0.mk HS
      clear HS
      go_wp2
      go_ret
      exact ⟨by rw [← HX.out.2.2.1, HS2.out]; rfl, by repeat (first | exact dr0 _ | refine dr1 ?_ _)⟩

theorem double_calls (W : World) (g : Nat) (A0 : Option Addr) (c0 : Nat) (b : List Int) (at_ row op base : Int) (only : Bool) (text : Int) (V : Value) (hs : RQ W g A0 c0 b at_ row op base only text V) (i en : Int) (h0 : 0 ≤ i) (h1 : en ≤ (b.length : Int)) :
    Calls Try.prog 28 #[.pointer (some ⟨g, 0, none⟩), .int .i64 i, .int .i64 en] W fun e w' => e = .returned (.int .i64 (doubleR b i en)) ∧ ∃ n, w' = W.drewN n := by
  have H := Aside0.mk hs
  have hc0 := hs.cell0
  have hl := hs.len
  clear hs
  have hR : doubleR b i en = dbl b en (en - i).toNat i := rfl
  generalize doubleR b i en = R at *
  have HR := Aside0.mk hR
  clear hR
  go_enter Try.func28, Try.ntmps28
  go_wp2
  go_loopg [1] (en - i).toNat (fun kq v w' => ∃ x : Int, v = .int .i64 x ∧ Aside0 (i ≤ x ∧ (x ≤ en + 1 ∨ x = i) ∧ dbl b en kq x = R ∧ en - x ≤ (kq : Int)) ∧ Aside0 (∃ n, w' = W.drewN n))
  case atStart => exact ⟨i, rfl, ⟨⟨Int.le_refl _, .inr rfl, HR.out.symm, by omega⟩⟩, ⟨by repeat (first | exact dr0 _ | refine dr1 ?_ _)⟩⟩
  case round =>
    obtain ⟨x, rfl, HX, ⟨n, rfl⟩⟩ := hrel
    have hx0 := HX.out.1
    by_cases l1 : x < en
    · have d1 : decide (x < en) = true := decide_eq_true l1
      have L1 := Aside0.mk l1
      have l2 : x < (b.length : Int) := by omega
      obtain ⟨ad2, ea2, hx2⟩ := Kd.at_int H.out.C (x) (by omega) l2
      cases ea2
      have q12 : (0 ≤ x) = True := eq_true (by omega)
      have q22 : (x < (b.length : Int)) = True := eq_true (by omega)
      obtain ⟨m, rfl⟩ : ∃ m, gk = m + 1 := ⟨gk - 1, by have := HX.out.2.2.2; omega⟩
      have HS := HX.out.2.2.1
      simp only [dbl] at HS
      rw [if_pos l1] at HS
      by_cases c1 : rd b x = 34
      · have f1 : (rd b x == 34) = true := beq_iff_eq.mpr c1
        rw [if_pos c1] at HS
        clear c1
        have HS2 := Aside0.mk HS
        clear HS
        go_wp2
        go_ret
        exact ⟨by rw [← HX.out.2.2.1, HX.out.2.2.1, ← HS2.out]; rfl, by repeat (first | exact dr0 _ | refine dr1 ?_ _)⟩
      · have f1 : (rd b x == 34) = false := beq_eq_false_iff_ne.mpr c1
        rw [if_neg c1] at HS
        by_cases c2 : rd b x = 92
        · have f2 : (rd b x == 92) = true := beq_iff_eq.mpr c2
          rw [if_pos c2] at HS
          clear c1 c2
          have HS2 := Aside0.mk HS
          clear HS
          go_wp2
          go_roundg m
          case measure => omega
          case rel => exact ⟨x + 2, by first | rfl | exact congrArg (Value.int .i64) (by omega), ⟨⟨by omega, .inl (by have := L1.out; omega), HS2.out, by have := HX.out.2.2.2; omega⟩⟩, ⟨by repeat (first | exact dr0 _ | refine dr1 ?_ _)⟩⟩
        · have f2 : (rd b x == 92) = false := beq_eq_false_iff_ne.mpr c2
          rw [if_neg c2] at HS
          clear c1 c2
          have HS2 := Aside0.mk HS
          clear HS
          go_wp2
          go_roundg m
          case measure => omega
          case rel => exact ⟨x + 1, by first | rfl | exact congrArg (Value.int .i64) (by omega), ⟨⟨by omega, .inl (by have := L1.out; omega), HS2.out, by have := HX.out.2.2.2; omega⟩⟩, ⟨by repeat (first | exact dr0 _ | refine dr1 ?_ _)⟩⟩
    · have d1 : decide (x < en) = false := decide_eq_false l1
      have L1 := Aside0.mk l1
      clear l1
      have HS : dbl b en gk x = en := by
        cases gk with
        | zero => rfl
        | succ m => simp only [dbl]; rw [if_neg (by have := L1.out; omega)]
      have HS2 := Aside0.mk HS
      clear HS
      go_wp2
      go_ret
      exact ⟨by rw [← HX.out.2.2.1, HS2.out]; rfl, by repeat (first | exact dr0 _ | refine dr1 ?_ _)⟩

end Go.Proofs.Ytagjfcogbnhmgaa.Rf
