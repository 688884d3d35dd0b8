/- The scanner's functions that only look. -/
import Derived.Test.YthoogadfhopkfaaSC0
import Derived.Test.YthoogadfhopkfaaQchars
namespace Go.Proofs.Ythoogadfhopkfaa.Sc
open Go.RowKit Go.Proofs.Ythoogadfhopkfaa.Q Go.Proofs.YthoogadfhopkfaaW.PrintWords Go.Proofs.YthoogadfhopkfaaW.PrintLast Go.Proofs.YthoogadfhopkfaaW.PrintMore
attribute [local go_sem] max2_int min2_int max_two min_two max_three min_three max_four min_four
set_option linter.unusedVariables false
set_option linter.unusedSimpArgs false

/-- A scanner's block, and its bytes. -/
structure SQ (W : World) (g : Nat) (A0 : Option Addr) (c0 : Nat) (b : List Int) (at_ : Int) (V : Value) (op row base : Int) (dash : Bool) : Prop where
  blk : W.heap[g]? = some (.cells #[.slice A0 b.length c0, .int .i64 at_, V, .int .i64 op, .int .i64 row, .int .i64 base, .bool dash] 43 (0, 0))
  C : Kd.C (Kd.int .u8) W A0 b.length b
  cap : b.length ≤ c0
  len : (b.length : Int) ≤ 16384
section
variable {W : World} {g : Nat} {A0 : Option Addr} {c0 : Nat} {b : List Int} {at_ : Int} {V : Value} {op row base : Int} {dash : Bool}
theorem SQ.drewN (h : SQ W g A0 c0 b at_ V op row base dash) (n : Nat) : SQ (W.drewN n) g A0 c0 b at_ V op row base dash := ⟨h.blk, Kd.C_drewN h.C n, h.cap, h.len⟩
theorem SQ.cell0 (h : SQ W g A0 c0 b at_ V op row base dash) : W.cell? ⟨g, 0, none⟩ = some (.slice A0 b.length c0) := (blk_cell h.blk 0).trans rfl
theorem SQ.cell1 (h : SQ W g A0 c0 b at_ V op row base dash) : W.cell? ⟨g, 1, none⟩ = some (.int .i64 at_) := (blk_cell h.blk 1).trans rfl
theorem SQ.cell2 (h : SQ W g A0 c0 b at_ V op row base dash) : W.cell? ⟨g, 2, none⟩ = some V := (blk_cell h.blk 2).trans rfl
theorem SQ.cell3 (h : SQ W g A0 c0 b at_ V op row base dash) : W.cell? ⟨g, 3, none⟩ = some (.int .i64 op) := (blk_cell h.blk 3).trans rfl
theorem SQ.cell4 (h : SQ W g A0 c0 b at_ V op row base dash) : W.cell? ⟨g, 4, none⟩ = some (.int .i64 row) := (blk_cell h.blk 4).trans rfl
theorem SQ.cell5 (h : SQ W g A0 c0 b at_ V op row base dash) : W.cell? ⟨g, 5, none⟩ = some (.int .i64 base) := (blk_cell h.blk 5).trans rfl
theorem SQ.cell6 (h : SQ W g A0 c0 b at_ V op row base dash) : W.cell? ⟨g, 6, none⟩ = some (.bool dash) := (blk_cell h.blk 6).trans rfl
end
set_option maxHeartbeats 8000000
set_option maxRecDepth 100000

theorem there (W : World) (g : Nat) (A0 : Option Addr) (c0 : Nat) (b : List Int) (at_ : Int) (V : Value) (op row base : Int) (dash : Bool) (hs : SQ W g A0 c0 b at_ V op row base dash) (i c : Int) (h0 : 0 ≤ i) :
    Calls Try.prog 36 #[.pointer (some ⟨g, 0, none⟩), .int .i64 i, .int .u8 c] W fun e w' => e = .returned (.bool (th b i c)) ∧ ∃ n, w' = W.drewN n := by
  have H := Aside0.mk hs
  have hc0 := hs.cell0
  clear hs
  by_cases h1 : i < (b.length : Int)
  · obtain ⟨ad, rfl, hx⟩ := Kd.at_int H.out.C i h0 h1
    have he : th b i c = (rd b i == c) := by simp [th, h1]
    have d1 : decide (i < (b.length : Int)) = true := decide_eq_true h1
    replace h0 := eq_true h0
    replace h1 := eq_true h1
    rw [he]
    clear he
    go_enter Try.func36, Try.ntmps36
    go_wp2
    go_ret
    exact ⟨rfl, 0, rfl⟩
  · have he : th b i c = false := by simp [th, h1]
    have d1 : decide (i < (b.length : Int)) = false := decide_eq_false h1
    rw [he]
    clear he
    go_enter Try.func36, Try.ntmps36
    go_wp2
    go_ret
    exact ⟨rfl, 0, rfl⟩
theorem dr0 (w : World) : ∃ n, w = w.drewN n := ⟨0, rfl⟩
theorem dr1 {w w' : World} (h : ∃ n, w' = w.drewN n) (m : Nat) : ∃ n, w'.drewN m = w.drewN n := by
  obtain ⟨n, rfl⟩ := h
  exact ⟨n + m, World.drewN_drewN ..⟩

theorem brk_calls (W : World) (g : Nat) (A0 : Option Addr) (c0 : Nat) (b : List Int) (at_ : Int) (V : Value) (op row base : Int) (dash : Bool) (hs : SQ W g A0 c0 b at_ V op row base dash) (i : Int) (h0 : 0 ≤ i) (h1 : i ≤ (b.length : Int)) :
    Calls Try.prog 33 #[.pointer (some ⟨g, 0, none⟩), .int .i64 i] W fun e w' => e = .returned (.int .i64 (brk b i)) ∧ ∃ n, w' = W.drewN n := by
  have H := Aside0.mk hs
  have hl := hs.len
  clear hs
  by_cases t1 : th b i 13 = true <;> by_cases t2 : th b (i + 1) 10 = true <;> by_cases t3 : th b i 10 = true
  all_goals
    try simp only [Bool.not_eq_true] at t1 t2 t3
    go_enter Try.func33, Try.ntmps33
    go_wp2_with (first | (go_at_call 36; (with_reducible refine (there _ g A0 c0 b at_ V op row base dash (by first | exact H.out | exact H.out.drewN _) _ _ (by omega)).mono ?_); rintro e w1 ⟨rfl, n1, rfl⟩))
    go_ret
    exact ⟨by simp [brk, t1, t2, t3], by repeat (first | exact dr0 _ | refine dr1 ?_ _)⟩
theorem brk_range (b : List Int) (i : Int) : 0 ≤ brk b i ∧ brk b i ≤ 2 := by
  unfold brk
  repeat' split
  all_goals omega

theorem blank_calls (c : Int) (W : World) : Calls Try.prog 62 #[.int .u8 c] W fun e w' => e = .returned (.bool (blank c)) ∧ ∃ n, w' = W.drewN n :=
  (chars_Blank.calls c (blank c) W (by
    unfold chars_Blank.f blank
    by_cases h : c = 32 <;> simp [h])).mono fun _ _ h => ⟨h.1, h.2.out⟩

theorem space_calls (W : World) (g : Nat) (A0 : Option Addr) (c0 : Nat) (b : List Int) (at_ : Int) (V : Value) (op row base : Int) (dash : Bool) (hs : SQ W g A0 c0 b at_ V op row base dash) (i : Int) (h0 : 0 ≤ i) :
    Calls Try.prog 39 #[.pointer (some ⟨g, 0, none⟩), .int .i64 i] W fun e w' => e = .returned (.bool (spc b i)) ∧ ∃ n, w' = W.drewN n := by
  have H := Aside0.mk hs
  have hc0 := hs.cell0
  have hl := hs.len
  clear hs
  by_cases h1 : i < (b.length : Int)
  · obtain ⟨ad, rfl, hx⟩ := Kd.at_int H.out.C i h0 h1
    have d1 : decide (i ≥ (b.length : Int)) = false := decide_eq_false (by omega)
    have d2 : decide ((b.length : Int) ≤ i) = false := decide_eq_false (by omega)
    have B0 := Aside0.mk h0
    have B1 := Aside0.mk h1
    by_cases t1 : blank (rd b i) = true <;> by_cases t2 : 0 < brk b i
    all_goals
      first | have t3 : decide (brk b i > 0) = true := decide_eq_true t2 | have t3 : decide (brk b i > 0) = false := decide_eq_false t2
      first | have t4 : decide (0 < brk b i) = true := decide_eq_true t2 | have t4 : decide (0 < brk b i) = false := decide_eq_false t2
      try simp only [Bool.not_eq_true] at t1
      clear t2
      replace h0 := eq_true h0
      replace h1 := eq_true h1
      go_enter Try.func39, Try.ntmps39
      go_wp2_with (first | (go_at_call 62; (with_reducible refine (blank_calls _ _).mono ?_); rintro e w1 ⟨rfl, n1, rfl⟩) | (go_at_call 33; (with_reducible refine (brk_calls _ g _ c0 b at_ V op row base dash (by first | exact H.out | exact H.out.drewN _) _ B0.out (Int.le_of_lt B1.out)).mono ?_); rintro e w1 ⟨rfl, n1, rfl⟩))
      go_ret
      exact ⟨by simp [spc, d2, t1, t4], by repeat (first | exact dr0 _ | refine dr1 ?_ _)⟩
  · have d1 : decide (i ≥ (b.length : Int)) = true := decide_eq_true (by omega)
    have d2 : decide ((b.length : Int) ≤ i) = true := decide_eq_true (by omega)
    go_enter Try.func39, Try.ntmps39
    go_wp2
    go_ret
    exact ⟨by simp [spc, d2], by repeat (first | exact dr0 _ | refine dr1 ?_ _)⟩

theorem line_calls (W : World) (g : Nat) (A0 : Option Addr) (c0 : Nat) (b : List Int) (at_ : Int) (V : Value) (op row base : Int) (dash : Bool) (hs : SQ W g A0 c0 b at_ V op row base dash) (i : Int) (h0 : 0 ≤ i) (h1 : i ≤ (b.length : Int)) :
    Calls Try.prog 37 #[.pointer (some ⟨g, 0, none⟩), .int .i64 i] W fun e w' => e = .returned (.int .i64 (line b i)) ∧ ∃ n, w' = W.drewN n := by
  have H := Aside0.mk hs
  have hc0 := hs.cell0
  have hl := hs.len
  clear hs
  go_enter Try.func37, Try.ntmps37
  go_wp2
  go_loopg [1] ((b.length : Int) - i).toNat (fun kq v w' => ∃ x : Int, v = .int .i64 x ∧ Aside0 (i ≤ x ∧ x ≤ (b.length : Int) ∧ line b x = line b i ∧ kq = ((b.length : Int) - x).toNat) ∧ Aside0 (∃ n, w' = W.drewN n))
  case atStart => exact ⟨i, rfl, ⟨⟨Int.le_refl _, h1, rfl, rfl⟩⟩, ⟨dr0 _⟩⟩
  case round =>
    obtain ⟨x, rfl, HX, ⟨n, rfl⟩⟩ := hrel
    have hx0 := HX.out.1
    have hx1 := HX.out.2.1
    by_cases l1 : x < (b.length : Int)
    · have d1 : decide (x < (b.length : Int)) = true := decide_eq_true l1
      have L1 := Aside0.mk l1
      by_cases l2 : (brk b x == 0) = true
      · have L2 := Aside0.mk l2
        have d2 : (brk b x == 0) = true := l2
        clear l2
        go_wp2_with (first | (go_at_call 33; (with_reducible refine (brk_calls _ g _ c0 b at_ V op row base dash (by first | exact H.out | exact H.out.drewN _) _ (by omega) (by omega)).mono ?_); rintro e w1 ⟨rfl, n1, rfl⟩))
        go_roundg ((b.length : Int) - (x + 1)).toNat
        case measure => have := HX.out.2.2.2; have := L1.out; omega
        case rel => exact ⟨x + 1, rfl, ⟨⟨by omega, by have := L1.out; omega, by rw [← HX.out.2.2.1]; exact (upto_go L1.out (by simpa using L2.out)).symm, rfl⟩⟩, ⟨by repeat (first | exact dr0 _ | refine dr1 ?_ _)⟩⟩
      · have L2 := Aside0.mk l2
        have d2 : (brk b x == 0) = false := by simpa using l2
        clear l2
        try simp only [Bool.not_eq_true] at d2
        go_wp2_with (first | (go_at_call 33; (with_reducible refine (brk_calls _ g _ c0 b at_ V op row base dash (by first | exact H.out | exact H.out.drewN _) _ (by omega) (by omega)).mono ?_); rintro e w1 ⟨rfl, n1, rfl⟩))
        go_ret
        exact ⟨by rw [← HX.out.2.2.1, show line b x = x from upto_stop (by simpa using L2.out)]; rfl, by repeat (first | exact dr0 _ | refine dr1 ?_ _)⟩
    · have d1 : decide (x < (b.length : Int)) = false := decide_eq_false l1
      have L1 := Aside0.mk l1
      clear l1
      go_wp2
      go_ret
      exact ⟨by rw [← HX.out.2.2.1, show line b x = x from upto_end (by have := L1.out; omega)]; rfl, by repeat (first | exact dr0 _ | refine dr1 ?_ _)⟩

theorem blanks_calls (W : World) (g : Nat) (A0 : Option Addr) (c0 : Nat) (b : List Int) (at_ : Int) (V : Value) (op row base : Int) (dash : Bool) (hs : SQ W g A0 c0 b at_ V op row base dash) (i : Int) (h0 : 0 ≤ i) (h1 : i ≤ (b.length : Int)) :
    Calls Try.prog 34 #[.pointer (some ⟨g, 0, none⟩), .int .i64 i] W fun e w' => e = .returned (.int .i64 (blanks b i)) ∧ ∃ n, w' = W.drewN n := by
  have H := Aside0.mk hs
  have hc0 := hs.cell0
  have hl := hs.len
  clear hs
  go_enter Try.func34, Try.ntmps34
  go_wp2
  go_loopg [1] ((b.length : Int) - i).toNat (fun kq v w' => ∃ x : Int, v = .int .i64 x ∧ Aside0 (i ≤ x ∧ x ≤ (b.length : Int) ∧ blanks b x = blanks b i ∧ kq = ((b.length : Int) - x).toNat) ∧ Aside0 (∃ n, w' = W.drewN n))
  case atStart => exact ⟨i, rfl, ⟨⟨Int.le_refl _, h1, rfl, rfl⟩⟩, ⟨dr0 _⟩⟩
  case round =>
    obtain ⟨x, rfl, HX, ⟨n, rfl⟩⟩ := hrel
    have hx0 := HX.out.1
    have hx1 := HX.out.2.1
    by_cases l1 : x < (b.length : Int)
    · have d1 : decide (x < (b.length : Int)) = true := decide_eq_true l1
      have L1 := Aside0.mk l1
      obtain ⟨ad, ea, hx⟩ := Kd.at_int H.out.C x (by omega) l1
      cases ea
      have q1 : (0 ≤ x) = True := eq_true (by omega)
      have q2 : (x < (b.length : Int)) = True := eq_true l1
      by_cases l2 : (blank (rd b x)) = true
      · have L2 := Aside0.mk l2
        have d2 : (blank (rd b x)) = true := l2
        clear l2
        go_wp2_with (first | (go_at_call 62; (with_reducible refine (blank_calls _ _).mono ?_); rintro e w1 ⟨rfl, n1, rfl⟩))
        go_roundg ((b.length : Int) - (x + 1)).toNat
        case measure => have := HX.out.2.2.2; have := L1.out; omega
        case rel => exact ⟨x + 1, rfl, ⟨⟨by omega, by have := L1.out; omega, by rw [← HX.out.2.2.1]; exact (upto_go L1.out (by simpa using L2.out)).symm, rfl⟩⟩, ⟨by repeat (first | exact dr0 _ | refine dr1 ?_ _)⟩⟩
      · have L2 := Aside0.mk l2
        have d2 : (blank (rd b x)) = false := by simpa using l2
        clear l2
        try simp only [Bool.not_eq_true] at d2
        go_wp2_with (first | (go_at_call 62; (with_reducible refine (blank_calls _ _).mono ?_); rintro e w1 ⟨rfl, n1, rfl⟩))
        go_ret
        exact ⟨by rw [← HX.out.2.2.1, show blanks b x = x from upto_stop (by simpa using L2.out)]; rfl, by repeat (first | exact dr0 _ | refine dr1 ?_ _)⟩
    · have d1 : decide (x < (b.length : Int)) = false := decide_eq_false l1
      have L1 := Aside0.mk l1
      clear l1
      go_wp2
      go_ret
      exact ⟨by rw [← HX.out.2.2.1, show blanks b x = x from upto_end (by have := L1.out; omega)]; rfl, by repeat (first | exact dr0 _ | refine dr1 ?_ _)⟩

theorem spaces_calls (W : World) (g : Nat) (A0 : Option Addr) (c0 : Nat) (b : List Int) (at_ : Int) (V : Value) (op row base : Int) (dash : Bool) (hs : SQ W g A0 c0 b at_ V op row base dash) (i : Int) (h0 : 0 ≤ i) (h1 : i ≤ (b.length : Int)) :
    Calls Try.prog 32 #[.pointer (some ⟨g, 0, none⟩), .int .i64 i] W fun e w' => e = .returned (.int .i64 (spaces b i)) ∧ ∃ n, w' = W.drewN n := by
  have H := Aside0.mk hs
  have hc0 := hs.cell0
  have hl := hs.len
  clear hs
  go_enter Try.func32, Try.ntmps32
  go_wp2
  go_loopg [1] ((b.length : Int) - i).toNat (fun kq v w' => ∃ x : Int, v = .int .i64 x ∧ Aside0 (i ≤ x ∧ x ≤ (b.length : Int) ∧ spaces b x = spaces b i ∧ kq = ((b.length : Int) - x).toNat) ∧ Aside0 (∃ n, w' = W.drewN n))
  case atStart => exact ⟨i, rfl, ⟨⟨Int.le_refl _, h1, rfl, rfl⟩⟩, ⟨dr0 _⟩⟩
  case round =>
    obtain ⟨x, rfl, HX, ⟨n, rfl⟩⟩ := hrel
    have hx0 := HX.out.1
    have hx1 := HX.out.2.1
    by_cases d2 : th b x 32 = true
    · have L := Aside0.mk (th_true d2)
      go_wp2_with (first | (go_at_call 36; (with_reducible refine (there _ g _ c0 b at_ V op row base dash (by first | exact H.out | exact H.out.drewN _) _ _ (by omega)).mono ?_); rintro e w1 ⟨rfl, n1, rfl⟩))
      go_roundg ((b.length : Int) - (x + 1)).toNat
      case measure => have := HX.out.2.2.2; have := L.out.1; omega
      case rel => exact ⟨x + 1, rfl, ⟨⟨by omega, by have := L.out.1; omega, by rw [← HX.out.2.2.1]; exact (upto_go L.out.1 L.out.2).symm, rfl⟩⟩, ⟨by repeat (first | exact dr0 _ | refine dr1 ?_ _)⟩⟩
    · replace d2 : th b x 32 = false := by simpa using d2
      have L := Aside0.mk d2
      go_wp2_with (first | (go_at_call 36; (with_reducible refine (there _ g _ c0 b at_ V op row base dash (by first | exact H.out | exact H.out.drewN _) _ _ (by omega)).mono ?_); rintro e w1 ⟨rfl, n1, rfl⟩))
      go_ret
      exact ⟨by rw [← HX.out.2.2.1, show spaces b x = x from upto_th L.out]; rfl, by repeat (first | exact dr0 _ | refine dr1 ?_ _)⟩

theorem name_calls (c : Int) (W : World) : Calls Try.prog 64 #[.int .u8 c] W fun e w' => e = .returned (.bool (name c)) ∧ ∃ n, w' = W.drewN n := by
  have hk : chars_Name.f c = some (name c) := by
    have hl : chars_letter.f c = some (decide (97 ≤ c ∧ c ≤ 122) || decide (65 ≤ c ∧ c ≤ 90) || decide (48 ≤ c ∧ c ≤ 57)) := by
      unfold chars_letter.f
      repeat' split
      all_goals
        rw [Option.some.injEq, Bool.eq_iff_iff]
        simp only [Bool.or_eq_true, decide_eq_true_eq, Bool.false_eq_true, true_iff, false_iff]
        omega
    unfold chars_Name.f name
    rw [hl, Option.bind_some]
    cases (decide (97 ≤ c ∧ c ≤ 122) || decide (65 ≤ c ∧ c ≤ 90) || decide (48 ≤ c ∧ c ≤ 57))
    · by_cases h : c = 95 <;> simp [h]
    · rfl
  exact (chars_Name.calls c (name c) W hk).mono fun _ _ h => ⟨h.1, h.2.out⟩
theorem flow_calls (c : Int) (W : World) : Calls Try.prog 63 #[.int .u8 c] W fun e w' => e = .returned (.bool (flow c)) ∧ ∃ n, w' = W.drewN n := by
  obtain ⟨k, hk⟩ : ∃ k, chars_Flow.f k c = some (flow c) := by
    refine ⟨5, ?_⟩
    simp only [chars_Flow.f, chars_Flow.j0, flow]
    repeat' split
    all_goals simp_all
  exact (chars_Flow.calls k c (flow c) W hk).mono fun _ _ h => ⟨h.1, h.2.out⟩

theorem names_calls (W : World) (g : Nat) (A0 : Option Addr) (c0 : Nat) (b : List Int) (at_ : Int) (V : Value) (op row base : Int) (dash : Bool) (hs : SQ W g A0 c0 b at_ V op row base dash) (i : Int) (h0 : 0 ≤ i) (h1 : i ≤ (b.length : Int)) :
    Calls Try.prog 65 #[.pointer (some ⟨g, 0, none⟩), .int .i64 i] W fun e w' => e = .returned (.int .i64 (names b i)) ∧ ∃ n, w' = W.drewN n := by
  have H := Aside0.mk hs
  have hc0 := hs.cell0
  have hl := hs.len
  clear hs
  go_enter Try.func65, Try.ntmps65
  go_wp2
  go_loopg [1] ((b.length : Int) - i).toNat (fun kq v w' => ∃ x : Int, v = .int .i64 x ∧ Aside0 (i ≤ x ∧ x ≤ (b.length : Int) ∧ names b x = names b i ∧ kq = ((b.length : Int) - x).toNat) ∧ Aside0 (∃ n, w' = W.drewN n))
  case atStart => exact ⟨i, rfl, ⟨⟨Int.le_refl _, h1, rfl, rfl⟩⟩, ⟨dr0 _⟩⟩
  case round =>
    obtain ⟨x, rfl, HX, ⟨n, rfl⟩⟩ := hrel
    have hx0 := HX.out.1
    have hx1 := HX.out.2.1
    by_cases l1 : x < (b.length : Int)
    · have d1 : decide (x < (b.length : Int)) = true := decide_eq_true l1
      have L1 := Aside0.mk l1
      obtain ⟨ad, ea, hx⟩ := Kd.at_int H.out.C x (by omega) l1
      cases ea
      have q1 : (0 ≤ x) = True := eq_true (by omega)
      have q2 : (x < (b.length : Int)) = True := eq_true l1
      by_cases l2 : (name (rd b x)) = true
      · have L2 := Aside0.mk l2
        have d2 : (name (rd b x)) = true := l2
        clear l2
        go_wp2_with (first | (go_at_call 64; (with_reducible refine (name_calls _ _).mono ?_); rintro e w1 ⟨rfl, n1, rfl⟩))
        go_roundg ((b.length : Int) - (x + 1)).toNat
        case measure => have := HX.out.2.2.2; have := L1.out; omega
        case rel => exact ⟨x + 1, rfl, ⟨⟨by omega, by have := L1.out; omega, by rw [← HX.out.2.2.1]; exact (upto_go L1.out (by simpa using L2.out)).symm, rfl⟩⟩, ⟨by repeat (first | exact dr0 _ | refine dr1 ?_ _)⟩⟩
      · have L2 := Aside0.mk l2
        have d2 : (name (rd b x)) = false := by simpa using l2
        clear l2
        try simp only [Bool.not_eq_true] at d2
        go_wp2_with (first | (go_at_call 64; (with_reducible refine (name_calls _ _).mono ?_); rintro e w1 ⟨rfl, n1, rfl⟩))
        go_ret
        exact ⟨by rw [← HX.out.2.2.1, show names b x = x from upto_stop (by simpa using L2.out)]; rfl, by repeat (first | exact dr0 _ | refine dr1 ?_ _)⟩
    · have d1 : decide (x < (b.length : Int)) = false := decide_eq_false l1
      have L1 := Aside0.mk l1
      clear l1
      go_wp2
      go_ret
      exact ⟨by rw [← HX.out.2.2.1, show names b x = x from upto_end (by have := L1.out; omega)]; rfl, by repeat (first | exact dr0 _ | refine dr1 ?_ _)⟩

end Go.Proofs.Ythoogadfhopkfaa.Sc
