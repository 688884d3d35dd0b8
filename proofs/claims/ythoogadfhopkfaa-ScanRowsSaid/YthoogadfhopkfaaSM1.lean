/- The scanner's functions that only look. -/
import Derived.Test.YthoogadfhopkfaaSC0
import Derived.Test.YthoogadfhopkfaaQchars
namespace Go.Proofs.Ythoogadfhopkfaa.Sc
open Go.RowKit Go.Proofs.Ythoogadfhopkfaa.Q Go.Proofs.YthoogadfhopkfaaW.PrintWords Go.Proofs.YthoogadfhopkfaaW.PrintLast Go.Proofs.YthoogadfhopkfaaW.PrintMore
attribute [local go_sem] max2_int min2_int max_two min_two max_three min_three max_four min_four
set_option linter.unusedVariables false
set_option linter.unusedSimpArgs false

/-- A scanner's block, and its bytes. -/
structure SQ (W : World) (g : Nat) (A0 : Option Addr) (c0 : Nat) (b : List Int) (at_ : Int) (V : Value) (op row base : Int) (dash : Bool) : Prop where
  blk : W.heap[g]? = some (.cells #[.slice A0 b.length c0, .int .i64 at_, V, .int .i64 op, .int .i64 row, .int .i64 base, .bool dash] 43 (0, 0))
  C : Kd.C (Kd.int .u8) W A0 b.length b
  cap : b.length ≤ c0
  len : (b.length : Int) ≤ 16384
section
variable {W : World} {g : Nat} {A0 : Option Addr} {c0 : Nat} {b : List Int} {at_ : Int} {V : Value} {op row base : Int} {dash : Bool}
theorem SQ.drewN (h : SQ W g A0 c0 b at_ V op row base dash) (n : Nat) : SQ (W.drewN n) g A0 c0 b at_ V op row base dash := ⟨h.blk, Kd.C_drewN h.C n, h.cap, h.len⟩
theorem SQ.cell0 (h : SQ W g A0 c0 b at_ V op row base dash) : W.cell? ⟨g, 0, none⟩ = some (.slice A0 b.length c0) := (blk_cell h.blk 0).trans rfl
theorem SQ.cell1 (h : SQ W g A0 c0 b at_ V op row base dash) : W.cell? ⟨g, 1, none⟩ = some (.int .i64 at_) := (blk_cell h.blk 1).trans rfl
theorem SQ.cell2 (h : SQ W g A0 c0 b at_ V op row base dash) : W.cell? ⟨g, 2, none⟩ = some V := (blk_cell h.blk 2).trans rfl
theorem SQ.cell3 (h : SQ W g A0 c0 b at_ V op row base dash) : W.cell? ⟨g, 3, none⟩ = some (.int .i64 op) := (blk_cell h.blk 3).trans rfl
theorem SQ.cell4 (h : SQ W g A0 c0 b at_ V op row base dash) : W.cell? ⟨g, 4, none⟩ = some (.int .i64 row) := (blk_cell h.blk 4).trans rfl
theorem SQ.cell5 (h : SQ W g A0 c0 b at_ V op row base dash) : W.cell? ⟨g, 5, none⟩ = some (.int .i64 base) := (blk_cell h.blk 5).trans rfl
theorem SQ.cell6 (h : SQ W g A0 c0 b at_ V op row base dash) : W.cell? ⟨g, 6, none⟩ = some (.bool dash) := (blk_cell h.blk 6).trans rfl
end
set_option maxHeartbeats 8000000
set_option maxRecDepth 100000

theorem there (W : World) (g : Nat) (A0 : Option Addr) (c0 : Nat) (b : List Int) (at_ : Int) (V : Value) (op row base : Int) (dash : Bool) (hs : SQ W g A0 c0 b at_ V op row base dash) (i c : Int) (h0 : 0 ≤ i) :
    Calls Try.prog 36 #[.pointer (some ⟨g, 0, none⟩), .int .i64 i, .int .u8 c] W fun e w' => e = .returned (.bool (th b i c)) ∧ ∃ n, w' = W.drewN n := by
  have H := Aside0.mk hs
  have hc0 := hs.cell0
  clear hs
  by_cases h1 : i < (b.length : Int)
  · obtain ⟨ad, rfl, hx⟩ := Kd.at_int H.out.C i h0 h1
    have he : th b i c = (rd b i == c) := by simp [th, h1]
    have d1 : decide (i < (b.length : Int)) = true := decide_eq_true h1
    replace h0 := eq_true h0
    replace h1 := eq_true h1
    rw [he]
    clear he
    go_enter Try.func36, Try.ntmps36
    go_wp2
    go_ret
    exact ⟨rfl, 0, rfl⟩
  · have he : th b i c = false := by simp [th, h1]
    have d1 : decide (i < (b.length : Int)) = false := decide_eq_false h1
    rw [he]
    clear he
    go_enter Try.func36, Try.ntmps36
    go_wp2
    go_ret
    exact ⟨rfl, 0, rfl⟩
theorem dr0 (w : World) : ∃ n, w = w.drewN n := ⟨0, rfl⟩
theorem dr1 {w w' : World} (h : ∃ n, w' = w.drewN n) (m : Nat) : ∃ n, w'.drewN m = w.drewN n := by
  obtain ⟨n, rfl⟩ := h
  exact ⟨n + m, World.drewN_drewN ..⟩

theorem brk_calls (W : World) (g : Nat) (A0 : Option Addr) (c0 : Nat) (b : List Int) (at_ : Int) (V : Value) (op row base : Int) (dash : Bool) (hs : SQ W g A0 c0 b at_ V op row base dash) (i : Int) (h0 : 0 ≤ i) (h1 : i ≤ (b.length : Int)) :
    Calls Try.prog 33 #[.pointer (some ⟨g, 0, none⟩), .int .i64 i] W fun e w' => e = .returned (.int .i64 (brk b i)) ∧ ∃ n, w' = W.drewN n := by
  have H := Aside0.mk hs
  have hl := hs.len
  clear hs
  by_cases t1 : th b i 13 = true <;> by_cases t2 : th b (i + 1) 10 = true <;> by_cases t3 : th b i 10 = true
  all_goals
    try simp only [Bool.not_eq_true] at t1 t2 t3
    go_enter Try.func33, Try.ntmps33
    go_wp2_with (first | (go_at_call 36; (with_reducible refine (there _ g A0 c0 b at_ V op row base dash (by first | exact H.out | exact H.out.drewN _) _ _ (by omega)).mono ?_); rintro e w1 ⟨rfl, n1, rfl⟩))
    go_ret
    exact ⟨by simp [brk, t1, t2, t3], by repeat (first | exact dr0 _ | refine dr1 ?_ _)⟩
theorem brk_range (b : List Int) (i : Int) : 0 ≤ brk b i ∧ brk b i ≤ 2 := by
  unfold brk
  repeat' split
  all_goals omega

theorem blank_calls (c : Int) (W : World) : Calls Try.prog 62 #[.int .u8 c] W fun e w' => e = .returned (.bool (blank c)) ∧ ∃ n, w' = W.drewN n :=
  (chars_Blank.calls c (blank c) W (by
    unfold chars_Blank.f blank
    by_cases h : c = 32 <;> simp [h])).mono fun _ _ h => ⟨h.1, h.2.out⟩

theorem space_calls (W : World) (g : Nat) (A0 : Option Addr) (c0 : Nat) (b : List Int) (at_ : Int) (V : Value) (op row base : Int) (dash : Bool) (hs : SQ W g A0 c0 b at_ V op row base dash) (i : Int) (h0 : 0 ≤ i) :
    Calls Try.prog 39 #[.pointer (some ⟨g, 0, none⟩), .int .i64 i] W fun e w' => e = .returned (.bool (spc b i)) ∧ ∃ n, w' = W.drewN n := by
  have H := Aside0.mk hs
  have hc0 := hs.cell0
  have hl := hs.len
  clear hs
  by_cases h1 : i < (b.length : Int)
  · obtain ⟨ad, rfl, hx⟩ := Kd.at_int H.out.C i h0 h1
    have d1 : decide (i ≥ (b.length : Int)) = false := decide_eq_false (by omega)
    have d2 : decide ((b.length : Int) ≤ i) = false := decide_eq_false (by omega)
    have B0 := Aside0.mk h0
    have B1 := Aside0.mk h1
    by_cases t1 : blank (rd b i) = true <;> by_cases t2 : 0 < brk b i
    all_goals
      first | have t3 : decide (brk b i > 0) = true := decide_eq_true t2 | have t3 : decide (brk b i > 0) = false := decide_eq_false t2
      first | have t4 : decide (0 < brk b i) = true := decide_eq_true t2 | have t4 : decide (0 < brk b i) = false := decide_eq_false t2
      try simp only [Bool.not_eq_true] at t1
      clear t2
      replace h0 := eq_true h0
      replace h1 := eq_true h1
      go_enter Try.func39, Try.ntmps39
      go_wp2_with (first | (go_at_call 62; (with_reducible refine (blank_calls _ _).mono ?_); rintro e w1 ⟨rfl, n1, rfl⟩) | (go_at_call 33; (with_reducible refine (brk_calls _ g _ c0 b at_ V op row base dash (by first | exact H.out | exact H.out.drewN _) _ B0.out (Int.le_of_lt B1.out)).mono ?_); rintro e w1 ⟨rfl, n1, rfl⟩))
      go_ret
      exact ⟨by simp [spc, d2, t1, t4], by repeat (first | exact dr0 _ | refine dr1 ?_ _)⟩
  · have d1 : decide (i ≥ (b.length : Int)) = true := decide_eq_true (by omega)
    have d2 : decide ((b.length : Int) ≤ i) = true := decide_eq_true (by omega)
    go_enter Try.func39, Try.ntmps39
    go_wp2
    go_ret
    exact ⟨by simp [spc, d2], by repeat (first | exact dr0 _ | refine dr1 ?_ _)⟩

theorem line_calls (W : World) (g : Nat) (A0 : Option Addr) (c0 : Nat) (b : List Int) (at_ : Int) (V : Value) (op row base : Int) (dash : Bool) (hs : SQ W g A0 c0 b at_ V op row base dash) (i : Int) (h0 : 0 ≤ i) (h1 : i ≤ (b.length : Int)) :
    Calls Try.prog 37 #[.pointer (some ⟨g, 0, none⟩), .int .i64 i] W fun e w' => e = .returned (.int .i64 (line b i)) ∧ ∃ n, w' = W.drewN n := by
  have H := Aside0.mk hs
  have hc0 := hs.cell0
  have hl := hs.len
  clear hs
  go_enter Try.func37, Try.ntmps37
  go_wp2
  go_loopg [1] ((b.length : Int) - i).toNat (fun kq v w' => ∃ x : Int, v = .int .i64 x ∧ Aside0 (i ≤ x ∧ x ≤ (b.length : Int) ∧ line b x = line b i ∧ kq = ((b.length : Int) - x).toNat) ∧ Aside0 (∃ n, w' = W.drewN n))
  case atStart => exact ⟨i, rfl, ⟨⟨Int.le_refl _, h1, rfl, rfl⟩⟩, ⟨dr0 _⟩⟩
  case round =>
    obtain ⟨x, rfl, HX, ⟨n, rfl⟩⟩ := hrel
    have hx0 := HX.out.1
    have hx1 := HX.out.2.1
    by_cases l1 : x < (b.length : Int)
    · have d1 : decide (x < (b.length : Int)) = true := decide_eq_true l1
      have L1 := Aside0.mk l1
      by_cases l2 : (brk b x == 0) = true
      · have L2 := Aside0.mk l2
        have d2 : (brk b x == 0) = true := l2
        clear l2
        go_wp2_with (first | (go_at_call 33; (with_reducible refine (brk_calls _ g _ c0 b at_ V op row base dash (by first | exact H.out | exact H.out.drewN _) _ (by omega) (by omega)).mono ?_); rintro e w1 ⟨rfl, n1, rfl⟩))
        go_roundg ((b.length : Int) - (x + 1)).toNat
        case measure => have := HX.out.2.2.2; have := L1.out; omega
        case rel => exact ⟨x + 1, rfl, ⟨⟨by omega, by have := L1.out; omega, by rw [← HX.out.2.2.1]; exact (upto_go L1.out (by simpa using L2.out)).symm, rfl⟩⟩, ⟨by repeat (first | exact dr0 _ | refine dr1 ?_ _)⟩⟩
      · have L2 := Aside0.mk l2
        have d2 : (brk b x == 0) = false := by simpa using l2
        clear l2
        try simp only [Bool.not_eq_true] at d2
        go_wp2_with (first | (go_at_call 33; (with_reducible refine (brk_calls _ g _ c0 b at_ V op row base dash (by first | exact H.out | exact H.out.drewN _) _ (by omega) (by omega)).mono ?_); rintro e w1 ⟨rfl, n1, rfl⟩))
        go_ret
        exact ⟨by rw [← HX.out.2.2.1, show line b x = x from upto_stop (by simpa using L2.out)]; rfl, by repeat (first | exact dr0 _ | refine dr1 ?_ _)⟩
    · have d1 : decide (x < (b.length : Int)) = false := decide_eq_false l1
      have L1 := Aside0.mk l1
      clear l1
      go_wp2
      go_ret
      exact ⟨by rw [← HX.out.2.2.1, show line b x = x from upto_end (by have := L1.out; omega)]; rfl, by repeat (first | exact dr0 _ | refine dr1 ?_ _)⟩

theorem blanks_calls (W : World) (g : Nat) (A0 : Option Addr) (c0 : Nat) (b : List Int) (at_ : Int) (V : Value) (op row base : Int) (dash : Bool) (hs : SQ W g A0 c0 b at_ V op row base dash) (i : Int) (h0 : 0 ≤ i) (h1 : i ≤ (b.length : Int)) :
    Calls Try.prog 34 #[.pointer (some ⟨g, 0, none⟩), .int .i64 i] W fun e w' => e = .returned (.int .i64 (blanks b i)) ∧ ∃ n, w' = W.drewN n := by
  have H := Aside0.mk hs
  have hc0 := hs.cell0
  have hl := hs.len
  clear hs
  go_enter Try.func34, Try.ntmps34
  go_wp2
  go_loopg [1] ((b.length : Int) - i).toNat (fun kq v w' => ∃ x : Int, v = .int .i64 x ∧ Aside0 (i ≤ x ∧ x ≤ (b.length : Int) ∧ blanks b x = blanks b i ∧ kq = ((b.length : Int) - x).toNat) ∧ Aside0 (∃ n, w' = W.drewN n))
  case atStart => exact ⟨i, rfl, ⟨⟨Int.le_refl _, h1, rfl, rfl⟩⟩, ⟨dr0 _⟩⟩
  case round =>
    obtain ⟨x, rfl, HX, ⟨n, rfl⟩⟩ := hrel
    have hx0 := HX.out.1
    have hx1 := HX.out.2.1
    by_cases l1 : x < (b.length : Int)
    · have d1 : decide (x < (b.length : Int)) = true := decide_eq_true l1
      have L1 := Aside0.mk l1
      obtain ⟨ad, ea, hx⟩ := Kd.at_int H.out.C x (by omega) l1
      cases ea
      have q1 : (0 ≤ x) = True := eq_true (by omega)
      have q2 : (x < (b.length : Int)) = True := eq_true l1
      by_cases l2 : (blank (rd b x)) = true
      · have L2 := Aside0.mk l2
        have d2 : (blank (rd b x)) = true := l2
        clear l2
        go_wp2_with (first | (go_at_call 62; (with_reducible refine (blank_calls _ _).mono ?_); rintro e w1 ⟨rfl, n1, rfl⟩))
        go_roundg ((b.length : Int) - (x + 1)).toNat
        case measure => have := HX.out.2.2.2; have := L1.out; omega
        case rel => exact ⟨x + 1, rfl, ⟨⟨by omega, by have := L1.out; omega, by rw [← HX.out.2.2.1]; exact (upto_go L1.out (by simpa using L2.out)).symm, rfl⟩⟩, ⟨by repeat (first | exact dr0 _ | refine dr1 ?_ _)⟩⟩
      · have L2 := Aside0.mk l2
        have d2 : (blank (rd b x)) = false := by simpa using l2
        clear l2
        try simp only [Bool.not_eq_true] at d2
        go_wp2_with (first | (go_at_call 62; (with_reducible refine (blank_calls _ _).mono ?_); rintro e w1 ⟨rfl, n1, rfl⟩))
        go_ret
        exact ⟨by rw [← HX.out.2.2.1, show blanks b x = x from upto_stop (by simpa using L2.out)]; rfl, by repeat (first | exact dr0 _ | refine dr1 ?_ _)⟩
    · have d1 : decide (x < (b.length : Int)) = false := decide_eq_false l1
      have L1 := Aside0.mk l1
      clear l1
      go_wp2
      go_ret
      exact ⟨by rw [← HX.out.2.2.1, show blanks b x = x from upto_end (by have := L1.out; omega)]; rfl, by repeat (first | exact dr0 _ | refine dr1 ?_ _)⟩

theorem spaces_calls (W : World) (g : Nat) (A0 : Option Addr) (c0 : Nat) (b : List Int) (at_ : Int) (V : Value) (op row base : Int) (dash : Bool) (hs : SQ W g A0 c0 b at_ V op row base dash) (i : Int) (h0 : 0 ≤ i) (h1 : i ≤ (b.length : Int)) :
    Calls Try.prog 32 #[.pointer (some ⟨g, 0, none⟩), .int .i64 i] W fun e w' => e = .returned (.int .i64 (spaces b i)) ∧ ∃ n, w' = W.drewN n := by
  have H := Aside0.mk hs
  have hc0 := hs.cell0
  have hl := hs.len
  clear hs
  go_enter Try.func32, Try.ntmps32
  go_wp2
  go_loopg [1] ((b.length : Int) - i).toNat (fun kq v w' => ∃ x : Int, v = .int .i64 x ∧ Aside0 (i ≤ x ∧ x ≤ (b.length : Int) ∧ spaces b x = spaces b i ∧ kq = ((b.length : Int) - x).toNat) ∧ Aside0 (∃ n, w' = W.drewN n))
  case atStart => exact ⟨i, rfl, ⟨⟨Int.le_refl _, h1, rfl, rfl⟩⟩, ⟨dr0 _⟩⟩
  case round =>
    obtain ⟨x, rfl, HX, ⟨n, rfl⟩⟩ := hrel
    have hx0 := HX.out.1
    have hx1 := HX.out.2.1
    by_cases d2 : th b x 32 = true
    · have L := Aside0.mk (th_true d2)
      go_wp2_with (first | (go_at_call 36; (with_reducible refine (there _ g _ c0 b at_ V op row base dash (by first | exact H.out | exact H.out.drewN _) _ _ (by omega)).mono ?_); rintro e w1 ⟨rfl, n1, rfl⟩))
      go_roundg ((b.length : Int) - (x + 1)).toNat
      case measure => have := HX.out.2.2.2; have := L.out.1; omega
      case rel => exact ⟨x + 1, rfl, ⟨⟨by omega, by have := L.out.1; omega, by rw [← HX.out.2.2.1]; exact (upto_go L.out.1 L.out.2).symm, rfl⟩⟩, ⟨by repeat (first | exact dr0 _ | refine dr1 ?_ _)⟩⟩
    · replace d2 : th b x 32 = false := by simpa using d2
      have L := Aside0.mk d2
      go_wp2_with (first | (go_at_call 36; (with_reducible refine (there _ g _ c0 b at_ V op row base dash (by first | exact H.out | exact H.out.drewN _) _ _ (by omega)).mono ?_); rintro e w1 ⟨rfl, n1, rfl⟩))
      go_ret
      exact ⟨by rw [← HX.out.2.2.1, show spaces b x = x from upto_th L.out]; rfl, by repeat (first | exact dr0 _ | refine dr1 ?_ _)⟩

theorem name_calls (c : Int) (W : World) : Calls Try.prog 64 #[.int .u8 c] W fun e w' => e = .returned (.bool (name c)) ∧ ∃ n, w' = W.drewN n := by
  have hk : chars_Name.f c = some (name c) := by
    have hl : chars_letter.f c = some (decide (97 ≤ c ∧ c ≤ 122) || decide (65 ≤ c ∧ c ≤ 90) || decide (48 ≤ c ∧ c ≤ 57)) := by
      unfold chars_letter.f
      repeat' split
      all_goals
        rw [Option.some.injEq, Bool.eq_iff_iff]
        simp only [Bool.or_eq_true, decide_eq_true_eq, Bool.false_eq_true, true_iff, false_iff]
        omega
    unfold chars_Name.f name
    rw [hl, Option.bind_some]
    cases (decide (97 ≤ c ∧ c ≤ 122) || decide (65 ≤ c ∧ c ≤ 90) || decide (48 ≤ c ∧ c ≤ 57))
    · by_cases h : c = 95 <;> simp [h]
    · rfl
  exact (chars_Name.calls c (name c) W hk).mono fun _ _ h => ⟨h.1, h.2.out⟩
theorem flow_calls (c : Int) (W : World) : Calls Try.prog 63 #[.int .u8 c] W fun e w' => e = .returned (.bool (flow c)) ∧ ∃ n, w' = W.drewN n := by
  obtain ⟨k, hk⟩ : ∃ k, chars_Flow.f k c = some (flow c) := by
    refine ⟨5, ?_⟩
    simp only [chars_Flow.f, chars_Flow.j0, flow]
    repeat' split
    all_goals simp_all
  exact (chars_Flow.calls k c (flow c) W hk).mono fun _ _ h => ⟨h.1, h.2.out⟩

theorem names_calls (W : World) (g : Nat) (A0 : Option Addr) (c0 : Nat) (b : List Int) (at_ : Int) (V : Value) (op row base : Int) (dash : Bool) (hs : SQ W g A0 c0 b at_ V op row base dash) (i : Int) (h0 : 0 ≤ i) (h1 : i ≤ (b.length : Int)) :
    Calls Try.prog 65 #[.pointer (some ⟨g, 0, none⟩), .int .i64 i] W fun e w' => e = .returned (.int .i64 (names b i)) ∧ ∃ n, w' = W.drewN n := by
  have H := Aside0.mk hs
  have hc0 := hs.cell0
  have hl := hs.len
  clear hs
  go_enter Try.func65, Try.ntmps65
  go_wp2
  go_loopg [1] ((b.length : Int) - i).toNat (fun kq v w' => ∃ x : Int, v = .int .i64 x ∧ Aside0 (i ≤ x ∧ x ≤ (b.length : Int) ∧ names b x = names b i ∧ kq = ((b.length : Int) - x).toNat) ∧ Aside0 (∃ n, w' = W.drewN n))
  case atStart => exact ⟨i, rfl, ⟨⟨Int.le_refl _, h1, rfl, rfl⟩⟩, ⟨dr0 _⟩⟩
  case round =>
    obtain ⟨x, rfl, HX, ⟨n, rfl⟩⟩ := hrel
    have hx0 := HX.out.1
    have hx1 := HX.out.2.1
    by_cases l1 : x < (b.length : Int)
    · have d1 : decide (x < (b.length : Int)) = true := decide_eq_true l1
      have L1 := Aside0.mk l1
      obtain ⟨ad, ea, hx⟩ := Kd.at_int H.out.C x (by omega) l1
      cases ea
      have q1 : (0 ≤ x) = True := eq_true (by omega)
      have q2 : (x < (b.length : Int)) = True := eq_true l1
      by_cases l2 : (name (rd b x)) = true
      · have L2 := Aside0.mk l2
        have d2 : (name (rd b x)) = true := l2
        clear l2
        go_wp2_with (first | (go_at_call 64; (with_reducible refine (name_calls _ _).mono ?_); rintro e w1 ⟨rfl, n1, rfl⟩))
        go_roundg ((b.length : Int) - (x + 1)).toNat
        case measure => have := HX.out.2.2.2; have := L1.out; omega
        case rel => exact ⟨x + 1, rfl, ⟨⟨by omega, by have := L1.out; omega, by rw [← HX.out.2.2.1]; exact (upto_go L1.out (by simpa using L2.out)).symm, rfl⟩⟩, ⟨by repeat (first | exact dr0 _ | refine dr1 ?_ _)⟩⟩
      · have L2 := Aside0.mk l2
        have d2 : (name (rd b x)) = false := by simpa using l2
        clear l2
        try simp only [Bool.not_eq_true] at d2
        go_wp2_with (first | (go_at_call 64; (with_reducible refine (name_calls _ _).mono ?_); rintro e w1 ⟨rfl, n1, rfl⟩))
        go_ret
        exact ⟨by rw [← HX.out.2.2.1, show names b x = x from upto_stop (by simpa using L2.out)]; rfl, by repeat (first | exact dr0 _ | refine dr1 ?_ _)⟩
    · have d1 : decide (x < (b.length : Int)) = false := decide_eq_false l1
      have L1 := Aside0.mk l1
      clear l1
      go_wp2
      go_ret
      exact ⟨by rw [← HX.out.2.2.1, show names b x = x from upto_end (by have := L1.out; omega)]; rfl, by repeat (first | exact dr0 _ | refine dr1 ?_ _)⟩

end Go.Proofs.Ythoogadfhopkfaa.Sc
/- The scanner's functions that only look: marks, colons, names, quoted texts, heads. -/
namespace Go.Proofs.Ythoogadfhopkfaa.Sc
open Go.RowKit Go.Proofs.Ythoogadfhopkfaa.Q Go.Proofs.YthoogadfhopkfaaW.PrintWords Go.Proofs.YthoogadfhopkfaaW.PrintLast Go.Proofs.YthoogadfhopkfaaW.PrintMore
attribute [local go_sem] max2_int min2_int max_two min_two max_three min_three max_four min_four
set_option linter.unusedVariables false
set_option linter.unusedSimpArgs false
set_option maxHeartbeats 8000000
set_option maxRecDepth 100000

theorem mark_calls (W : World) (g : Nat) (A0 : Option Addr) (c0 : Nat) (b : List Int) (at_ : Int) (V : Value) (op row base : Int) (dash : Bool) (hs : SQ W g A0 c0 b at_ V op row base dash) (i : Int) (h0 : 0 ≤ i) (h1 : i ≤ (b.length : Int)) :
    Calls Try.prog 30 #[.pointer (some ⟨g, 0, none⟩), .int .i64 i] W fun e w' => e = .returned (.int .i64 (mark b i)) ∧ ∃ n, w' = W.drewN n := by
  have H := Aside0.mk hs
  have hc0 := hs.cell0
  have hl := hs.len
  clear hs
  by_cases l1 : (b.length : Int) < i + 3
  · have d1 : decide (i + 3 > (b.length : Int)) = true := decide_eq_true l1
    have he : mark b i = 0 := by simp [mark, l1]
    rw [he]
    clear he
    go_enter Try.func30, Try.ntmps30
    go_wp2_with (first | (go_at_call 39; (with_reducible refine (space_calls _ g _ c0 b at_ V op row base dash (by first | exact H.out | exact H.out.drewN _) _ (by omega)).mono ?_); rintro e w1 ⟨rfl, n1, rfl⟩))
    go_ret
    exact ⟨rfl, by repeat (first | exact dr0 _ | refine dr1 ?_ _)⟩
  · have d1 : decide (i + 3 > (b.length : Int)) = false := decide_eq_false (by omega)
    by_cases t1 : spc b (i + 3) = true
    · obtain ⟨i0, hi0, _, hsz, _⟩ := info_parts (P := Try.prog) info5
      obtain ⟨A1, hcut, hA, hcap⟩ := print_mid_of (P := Try.prog) (Value.int .u8) (0 : Int) 23 5 .i64 .i64 Try.underlying23 hi0 hsz A0 c0 b i (i + 3) h0 (by omega) (by omega) H.out.cap
      have hcv : ∀ n, (convert 23 9 (.slice A1 ((b.take (i + 3).toNat).drop i.toNat).length (c0 - i.toNat))).run Try.prog (W.drewN n) = .ok (.string (strOfNums ((b.take (i + 3).toNat).drop i.toNat))) (W.drewN n) := fun n => Kd.C_string Try.underlying23 Try.underlying5 Try.underlying9 (Kd.C_of_reads (h1 := fun _ => rfl) (hA _ (Kd.reads_of_C (H.out.drewN n).C)))
      clear hA hcap hi0 hsz
      have hm : mark b i = if (strOfNums (cut b i (i + 3))).toList == [45, 45, 45] then 20 else if (strOfNums (cut b i (i + 3))).toList == [46, 46, 46] then 21 else 0 := by simp [mark, l1, t1]
      rw [hm]
      unfold cut
      clear hm
      generalize (b.take (i + 3).toNat).drop i.toNat = xs at *
      generalize strOfNums xs = s at *
      by_cases s1 : s.toList = [45, 45, 45] <;> by_cases s2 : s.toList = [46, 46, 46]
      all_goals
        first | have e1 : (s.toList == [45, 45, 45]) = true := beq_iff_eq.mpr s1 | have e1 : (s.toList == [45, 45, 45]) = false := beq_eq_false_iff_ne.mpr s1
        first | have e2 : (s.toList == [46, 46, 46]) = true := beq_iff_eq.mpr s2 | have e2 : (s.toList == [46, 46, 46]) = false := beq_eq_false_iff_ne.mpr s2
        clear s1 s2
        rw [e1, e2]
        go_enter Try.func30, Try.ntmps30
        go_wp2_with (first | (go_at_call 39; (with_reducible refine (space_calls _ g _ c0 b at_ V op row base dash (by first | exact H.out | exact H.out.drewN _) _ (by omega)).mono ?_); rintro e w1 ⟨rfl, n1, rfl⟩))
        go_ret
        exact ⟨rfl, by repeat (first | exact dr0 _ | refine dr1 ?_ _)⟩
    · replace t1 : spc b (i + 3) = false := by simpa using t1
      have he : mark b i = 0 := by simp [mark, l1, t1]
      rw [he]
      clear he
      go_enter Try.func30, Try.ntmps30
      go_wp2_with (first | (go_at_call 39; (with_reducible refine (space_calls _ g _ c0 b at_ V op row base dash (by first | exact H.out | exact H.out.drewN _) _ (by omega)).mono ?_); rintro e w1 ⟨rfl, n1, rfl⟩))
      go_ret
      exact ⟨rfl, by repeat (first | exact dr0 _ | refine dr1 ?_ _)⟩

theorem spc_false {b : List Int} {i : Int} (h : spc b i = false) : i < (b.length : Int) := by
  unfold spc at h
  simp at h
  omega
theorem colon_calls (W : World) (g : Nat) (A0 : Option Addr) (c0 : Nat) (b : List Int) (at_ : Int) (V : Value) (op row base : Int) (dash : Bool) (hs : SQ W g A0 c0 b at_ V op row base dash) (i : Int) (h0 : 0 ≤ i) (h1 : i ≤ (b.length : Int)) :
    Calls Try.prog 40 #[.pointer (some ⟨g, 0, none⟩), .int .i64 i] W fun e w' => e = .returned (.bool (colon b op i)) ∧ ∃ n, w' = W.drewN n := by
  have H := Aside0.mk hs
  have hc0 := hs.cell0
  have hc3 := hs.cell3
  have hl := hs.len
  clear hs
  by_cases t0 : th b i 58 = true
  · by_cases t1 : spc b (i + 1) = true
    · have he : colon b op i = true := by simp [colon, t0, t1]
      rw [he]
      clear he
      go_enter Try.func40, Try.ntmps40
      go_wp2_with (first | (go_at_call 36; (with_reducible refine (there _ g _ c0 b at_ V op row base dash (by first | exact H.out | exact H.out.drewN _) _ _ (by omega)).mono ?_); rintro e w1 ⟨rfl, n1, rfl⟩) | (go_at_call 39; (with_reducible refine (space_calls _ g _ c0 b at_ V op row base dash (by first | exact H.out | exact H.out.drewN _) _ (by omega)).mono ?_); rintro e w1 ⟨rfl, n1, rfl⟩) | (go_at_call 63; (with_reducible refine (flow_calls _ _).mono ?_); rintro e w1 ⟨rfl, n1, rfl⟩))
      go_ret
      exact ⟨rfl, by repeat (first | exact dr0 _ | refine dr1 ?_ _)⟩
    · replace t1 : spc b (i + 1) = false := by simpa using t1
      have l1 : i + 1 < (b.length : Int) := spc_false t1
      obtain ⟨ad, ea, hx⟩ := Kd.at_int H.out.C (i + 1) (by omega) l1
      cases ea
      have q1 : (0 ≤ i + 1) = True := eq_true (by omega)
      have q2 : (i + 1 < (b.length : Int)) = True := eq_true l1
      by_cases o1 : op > 0
      · have d1 : decide (op > 0) = true := decide_eq_true o1
        have d2 : decide (0 < op) = true := decide_eq_true o1
        have he : colon b op i = flow (rd b (i + 1)) := by simp [colon, t0, t1, d2]
        rw [he]
        clear he
        go_enter Try.func40, Try.ntmps40
        go_wp2_with (first | (go_at_call 36; (with_reducible refine (there _ g _ c0 b at_ V op row base dash (by first | exact H.out | exact H.out.drewN _) _ _ (by omega)).mono ?_); rintro e w1 ⟨rfl, n1, rfl⟩) | (go_at_call 39; (with_reducible refine (space_calls _ g _ c0 b at_ V op row base dash (by first | exact H.out | exact H.out.drewN _) _ (by omega)).mono ?_); rintro e w1 ⟨rfl, n1, rfl⟩) | (go_at_call 63; (with_reducible refine (flow_calls _ _).mono ?_); rintro e w1 ⟨rfl, n1, rfl⟩))
        go_ret
        exact ⟨rfl, by repeat (first | exact dr0 _ | refine dr1 ?_ _)⟩
      · have d1 : decide (op > 0) = false := decide_eq_false o1
        have d2 : decide (0 < op) = false := decide_eq_false o1
        have he : colon b op i = false := by simp [colon, t0, t1, d2]
        rw [he]
        clear he
        go_enter Try.func40, Try.ntmps40
        go_wp2_with (first | (go_at_call 36; (with_reducible refine (there _ g _ c0 b at_ V op row base dash (by first | exact H.out | exact H.out.drewN _) _ _ (by omega)).mono ?_); rintro e w1 ⟨rfl, n1, rfl⟩) | (go_at_call 39; (with_reducible refine (space_calls _ g _ c0 b at_ V op row base dash (by first | exact H.out | exact H.out.drewN _) _ (by omega)).mono ?_); rintro e w1 ⟨rfl, n1, rfl⟩) | (go_at_call 63; (with_reducible refine (flow_calls _ _).mono ?_); rintro e w1 ⟨rfl, n1, rfl⟩))
        go_ret
        exact ⟨rfl, by repeat (first | exact dr0 _ | refine dr1 ?_ _)⟩
  · replace t0 : th b i 58 = false := by simpa using t0
    have he : colon b op i = false := by simp [colon, t0]
    rw [he]
    clear he
    go_enter Try.func40, Try.ntmps40
    go_wp2_with (first | (go_at_call 36; (with_reducible refine (there _ g _ c0 b at_ V op row base dash (by first | exact H.out | exact H.out.drewN _) _ _ (by omega)).mono ?_); rintro e w1 ⟨rfl, n1, rfl⟩) | (go_at_call 39; (with_reducible refine (space_calls _ g _ c0 b at_ V op row base dash (by first | exact H.out | exact H.out.drewN _) _ (by omega)).mono ?_); rintro e w1 ⟨rfl, n1, rfl⟩) | (go_at_call 63; (with_reducible refine (flow_calls _ _).mono ?_); rintro e w1 ⟨rfl, n1, rfl⟩))
    go_ret
    exact ⟨rfl, by repeat (first | exact dr0 _ | refine dr1 ?_ _)⟩

end Go.Proofs.Ythoogadfhopkfaa.Sc
/- The scanner's functions that only look: names with their signs, quoted texts, heads. -/
namespace Go.Proofs.Ythoogadfhopkfaa.Sc
open Go.RowKit Go.Proofs.Ythoogadfhopkfaa.Q Go.Proofs.YthoogadfhopkfaaW.PrintWords Go.Proofs.YthoogadfhopkfaaW.PrintLast Go.Proofs.YthoogadfhopkfaaW.PrintMore
attribute [local go_sem] max2_int min2_int max_two min_two max_three min_three max_four min_four
set_option linter.unusedVariables false
set_option linter.unusedSimpArgs false
set_option maxHeartbeats 8000000
set_option maxRecDepth 100000

theorem prop_calls (W : World) (g : Nat) (A0 : Option Addr) (c0 : Nat) (b : List Int) (at_ : Int) (V : Value) (op row base : Int) (dash : Bool) (hs : SQ W g A0 c0 b at_ V op row base dash) (h0 : 0 ≤ at_) (h1 : at_ < (b.length : Int)) :
    Calls Try.prog 41 #[.pointer (some ⟨g, 0, none⟩)] W fun e w' => e = .returned (.tuple #[.int .i64 (prop b at_).1, .int .i64 (prop b at_).2]) ∧ ∃ n, w' = W.drewN n := by
  have H := Aside0.mk hs
  have hc0 := hs.cell0
  have hc1 := hs.cell1
  have hl := hs.len
  clear hs
  obtain ⟨ad, ea, hx⟩ := Kd.at_int H.out.C at_ h0 h1
  cases ea
  have q1 : (0 ≤ at_) = True := eq_true h0
  have q2 : (at_ < (b.length : Int)) = True := eq_true h1
  have B0 := Aside0.mk h0
  have B1 := Aside0.mk h1
  by_cases k : rd b at_ = 33
  · have K := Aside0.mk k
    have he : prop b at_ = (14, tag b (at_ + 1)) := by simp [prop, k]
    rw [he]
    clear he k
    have k33 : (rd b at_ == 33) = true := beq_iff_eq.mpr K.out
    have k38 : (rd b at_ == 38) = false := beq_eq_false_iff_ne.mpr (by have := K.out; omega)
    have k42 : (rd b at_ == 42) = false := beq_eq_false_iff_ne.mpr (by have := K.out; omega)
    go_enter Try.func41, Try.ntmps41
    go_wp2
    go_quiet (fail)
    go_wp2
    go_loopg [3] ((b.length : Int) - at_).toNat (fun kq v w' => ∃ x : Int, v = .int .i64 x ∧ Aside0 (at_ + 1 ≤ x ∧ x ≤ (b.length : Int) ∧ tag b x = tag b (at_ + 1) ∧ kq = ((b.length : Int) - x).toNat + 1) ∧ Aside0 (∃ n, w' = W.drewN n))
    case atStart => exact ⟨at_ + 1, rfl, ⟨⟨Int.le_refl _, by have := B1.out; omega, rfl, by have := B1.out; omega⟩⟩, ⟨by repeat (first | exact dr0 _ | refine dr1 ?_ _)⟩⟩
    case round =>
      obtain ⟨x, rfl, HX, ⟨n, rfl⟩⟩ := hrel
      have hx0 := HX.out.1
      have hx1 := HX.out.2.1
      by_cases l1 : x < (b.length : Int)
      · have d1 : decide (x < (b.length : Int)) = true := decide_eq_true l1
        have L1 := Aside0.mk l1
        obtain ⟨ad2, ea2, hx2⟩ := Kd.at_int H.out.C x (by have := B0.out; omega) l1
        cases ea2
        have q1 : (0 ≤ x) = True := eq_true (by have := B0.out; omega)
        have q2 : (x < (b.length : Int)) = True := eq_true l1
        clear l1
        by_cases n : (name (rd b x) || rd b x == 33) = true
        · have N := Aside0.mk n
          have n0 : name (rd b x) = true ∨ (name (rd b x) = false ∧ (rd b x == 33) = true) := by cases h : name (rd b x) <;> simp_all
          clear n
          rcases n0 with n1 | ⟨n1, n2⟩
          all_goals
            go_wp2_with (first | (go_at_call 64; (with_reducible refine (name_calls _ _).mono ?_); rintro e w1 ⟨rfl, n1, rfl⟩))
            go_roundg (((b.length : Int) - (x + 1)).toNat + 1)
            case measure => have := HX.out.2.2.2; have := L1.out; omega
            case rel => exact ⟨x + 1, rfl, ⟨⟨by omega, by have := L1.out; omega, by rw [← HX.out.2.2.1]; exact (upto_go L1.out N.out).symm, rfl⟩⟩, ⟨by repeat (first | exact dr0 _ | refine dr1 ?_ _)⟩⟩
        · replace n : (name (rd b x) || rd b x == 33) = false := by simpa using n
          have N := Aside0.mk n
          obtain ⟨n1, n2⟩ : name (rd b x) = false ∧ (rd b x == 33) = false := by cases h : name (rd b x) <;> simp_all
          clear n
          go_wp2_with (first | (go_at_call 64; (with_reducible refine (name_calls _ _).mono ?_); rintro e w1 ⟨rfl, n1, rfl⟩))
          go_ret2
          exact ⟨by rw [← HX.out.2.2.1, show tag b x = x from upto_stop N.out]; rfl, by repeat (first | exact dr0 _ | refine dr1 ?_ _)⟩
      · have d1 : decide (x < (b.length : Int)) = false := decide_eq_false l1
        have L1 := Aside0.mk l1
        clear l1
        go_wp2
        go_ret2
        exact ⟨by rw [← HX.out.2.2.1, show tag b x = x from upto_end (by have := L1.out; omega)]; rfl, by repeat (first | exact dr0 _ | refine dr1 ?_ _)⟩
  · have K := Aside0.mk k
    have he : prop b at_ = if names b (at_ + 1) = at_ + 1 then (0, 0) else (if rd b at_ = 38 then 12 else if rd b at_ = 42 then 13 else 0, names b (at_ + 1)) := by simp [prop, k]
    generalize prop b at_ = R at *
    have HR := Aside0.mk he
    have k33 : (rd b at_ == 33) = false := beq_eq_false_iff_ne.mpr k
    clear he k
    by_cases c1 : rd b at_ = 38 <;> by_cases c2 : rd b at_ = 42 <;> by_cases c3 : names b (at_ + 1) = at_ + 1
    all_goals
      first | have e1 : (rd b at_ == 38) = true := beq_iff_eq.mpr c1 | have e1 : (rd b at_ == 38) = false := beq_eq_false_iff_ne.mpr c1
      first | have e2 : (rd b at_ == 42) = true := beq_iff_eq.mpr c2 | have e2 : (rd b at_ == 42) = false := beq_eq_false_iff_ne.mpr c2
      first | have e3 : (names b (at_ + 1) == at_ + 1) = true := beq_iff_eq.mpr c3 | have e3 : (names b (at_ + 1) == at_ + 1) = false := beq_eq_false_iff_ne.mpr c3
      have C := Aside0.mk (And.intro c1 (And.intro c2 c3))
      clear c1 c2 c3
      go_enter Try.func41, Try.ntmps41
      go_wp2
      go_quiet (fail)
      go_wp2_with (first | (go_at_call 65; (with_reducible refine (names_calls _ g _ c0 b at_ V op row base dash (by first | exact H.out | exact H.out.drewN _) _ (by have := B0.out; omega) (by have := B1.out; omega)).mono ?_); rintro e w1 ⟨rfl, n1, rfl⟩))
      go_ret2
      exact ⟨by rw [HR.out]; simp [C.out], by repeat (first | exact dr0 _ | refine dr1 ?_ _)⟩

end Go.Proofs.Ythoogadfhopkfaa.Sc
/- The scanner's functions that only look: quoted texts, heads. -/
namespace Go.Proofs.Ythoogadfhopkfaa.Sc
open Go.RowKit Go.Proofs.Ythoogadfhopkfaa.Q Go.Proofs.YthoogadfhopkfaaW.PrintWords Go.Proofs.YthoogadfhopkfaaW.PrintLast Go.Proofs.YthoogadfhopkfaaW.PrintMore
attribute [local go_sem] max2_int min2_int max_two min_two max_three min_three max_four min_four
set_option linter.unusedVariables false
set_option linter.unusedSimpArgs false
set_option maxHeartbeats 8000000
set_option maxRecDepth 100000

theorem single_calls (W : World) (g : Nat) (A0 : Option Addr) (c0 : Nat) (b : List Int) (at_ : Int) (V : Value) (op row base : Int) (dash : Bool) (hs : SQ W g A0 c0 b at_ V op row base dash) (h0 : 0 ≤ at_) (h1 : at_ < (b.length : Int)) :
    Calls Try.prog 42 #[.pointer (some ⟨g, 0, none⟩)] W fun e w' => e = .returned (.int .i64 (single b at_)) ∧ ∃ n, w' = W.drewN n := by
  have H := Aside0.mk hs
  have hc0 := hs.cell0
  have hc1 := hs.cell1
  have hl := hs.len
  clear hs
  have B0 := Aside0.mk h0
  have B1 := Aside0.mk h1
  have hle := upto_le (n := (b.length : Int)) (i := at_) (p := fun j => brk b j == 0) (Int.le_of_lt h1)
  have e0 : at_ ≤ line b at_ := hle.1
  have e1 : line b at_ ≤ (b.length : Int) := hle.2
  clear hle
  have hR : single b at_ = sgl b (line b at_) (line b at_ - at_).toNat (at_ + 1) := rfl
  generalize single b at_ = R at *
  have HR := Aside0.mk hR
  clear hR
  go_enter Try.func42, Try.ntmps42
  go_wp2_with (first | (go_at_call 37; (with_reducible refine (line_calls _ g _ c0 b at_ V op row base dash (by first | exact H.out | exact H.out.drewN _) _ (by have := B0.out; omega) (by have := B1.out; omega)).mono ?_); rintro e w1 ⟨rfl, n1, rfl⟩))
  go_loopg [4] (line b at_ - at_).toNat (fun kq v w' => ∃ x : Int, v = .int .i64 x ∧ Aside0 (at_ + 1 ≤ x ∧ x ≤ line b at_ + 1 ∧ sgl b (line b at_) kq x = R ∧ line b at_ - x < (kq : Int)) ∧ Aside0 (∃ n, w' = W.drewN n))
  case atStart => exact ⟨at_ + 1, rfl, ⟨⟨Int.le_refl _, by omega, HR.out.symm, by omega⟩⟩, ⟨by repeat (first | exact dr0 _ | refine dr1 ?_ _)⟩⟩
  case round =>
    obtain ⟨x, rfl, HX, ⟨n, rfl⟩⟩ := hrel
    have hx0 := HX.out.1
    have hx1 := HX.out.2.1
    by_cases l1 : x < line b at_
    · have d1 : decide (x < line b at_) = true := decide_eq_true l1
      have L1 := Aside0.mk l1
      have l2 : x < (b.length : Int) := by omega
      obtain ⟨ad2, ea2, hx2⟩ := Kd.at_int H.out.C x (by omega) l2
      cases ea2
      have q1 : (0 ≤ x) = True := eq_true (by omega)
      have q2 : (x < (b.length : Int)) = True := eq_true l2
      have B2 := Aside0.mk l2
      obtain ⟨m, rfl⟩ : ∃ m, gk = m + 1 := ⟨gk - 1, by have := HX.out.2.2.2; omega⟩
      have HS := HX.out.2.2.1
      simp only [sgl] at HS
      rw [if_pos l1] at HS
      clear l1 l2
      by_cases c1 : rd b x = 39
      · have f1 : (rd b x == 39) = true := beq_iff_eq.mpr c1
        have f2 : (rd b x != 39) = false := bne_eq_false_iff_eq.mpr c1
        rw [if_pos c1] at HS
        clear c1
        by_cases t1 : th b (x + 1) 39 = true
        · rw [if_pos t1] at HS
          have T1 := Aside0.mk (th_true t1).1
          have HS2 := Aside0.mk HS
          clear HS
          go_wp2_with (first | (go_at_call 36; (with_reducible refine (there _ g _ c0 b at_ V op row base dash (by first | exact H.out | exact H.out.drewN _) _ _ (by omega)).mono ?_); rintro e w1 ⟨rfl, n1, rfl⟩))
          go_roundg m
          case measure => omega
          case rel => exact ⟨x + 2, by first | rfl | exact congrArg (Value.int .i64) (by omega), ⟨⟨by omega, by have := L1.out; omega, HS2.out, by have := HX.out.2.2.2; omega⟩⟩, ⟨by repeat (first | exact dr0 _ | refine dr1 ?_ _)⟩⟩
        · rw [if_neg t1] at HS
          replace t1 : th b (x + 1) 39 = false := by simpa using t1
          have HS2 := Aside0.mk HS
          clear HS
          go_wp2_with (first | (go_at_call 36; (with_reducible refine (there _ g _ c0 b at_ V op row base dash (by first | exact H.out | exact H.out.drewN _) _ _ (by omega)).mono ?_); rintro e w1 ⟨rfl, n1, rfl⟩))
          go_ret
          exact ⟨by rw [← HX.out.2.2.1, HX.out.2.2.1, ← HS2.out]; rfl, by repeat (first | exact dr0 _ | refine dr1 ?_ _)⟩
      · have f1 : (rd b x == 39) = false := beq_eq_false_iff_ne.mpr c1
        have f2 : (rd b x != 39) = true := bne_iff_ne.mpr c1
        rw [if_neg c1] at HS
        clear c1
        have HS2 := Aside0.mk HS
        clear HS
        go_wp2_with (first | (go_at_call 36; (with_reducible refine (there _ g _ c0 b at_ V op row base dash (by first | exact H.out | exact H.out.drewN _) _ _ (by omega)).mono ?_); rintro e w1 ⟨rfl, n1, rfl⟩))
        go_roundg m
        case measure => omega
        case rel => exact ⟨x + 1, by first | rfl | exact congrArg (Value.int .i64) (by omega), ⟨⟨by omega, by have := L1.out; omega, HS2.out, by have := HX.out.2.2.2; omega⟩⟩, ⟨by repeat (first | exact dr0 _ | refine dr1 ?_ _)⟩⟩
    · have d1 : decide (x < line b at_) = false := decide_eq_false l1
      have L1 := Aside0.mk l1
      clear l1
      have HS : sgl b (line b at_) gk x = line b at_ := by
        cases gk with
        | zero => rfl
        | succ m => simp only [sgl]; rw [if_neg (by have := L1.out; omega)]
      have HS2 := Aside0.mk HS
      clear HS
      go_wp2
      go_ret
      exact ⟨by rw [← HX.out.2.2.1, HS2.out]; rfl, by repeat (first | exact dr0 _ | refine dr1 ?_ _)⟩

theorem double_calls (W : World) (g : Nat) (A0 : Option Addr) (c0 : Nat) (b : List Int) (at_ : Int) (V : Value) (op row base : Int) (dash : Bool) (hs : SQ W g A0 c0 b at_ V op row base dash) (h0 : 0 ≤ at_) (h1 : at_ < (b.length : Int)) :
    Calls Try.prog 43 #[.pointer (some ⟨g, 0, none⟩)] W fun e w' => e = .returned (.int .i64 (double b at_)) ∧ ∃ n, w' = W.drewN n := by
  have H := Aside0.mk hs
  have hc0 := hs.cell0
  have hc1 := hs.cell1
  have hl := hs.len
  clear hs
  have B0 := Aside0.mk h0
  have B1 := Aside0.mk h1
  have hle := upto_le (n := (b.length : Int)) (i := at_) (p := fun j => brk b j == 0) (Int.le_of_lt h1)
  have e0 : at_ ≤ line b at_ := hle.1
  have e1 : line b at_ ≤ (b.length : Int) := hle.2
  clear hle
  have hR : double b at_ = dbl b (line b at_) (line b at_ - at_).toNat (at_ + 1) := rfl
  generalize double b at_ = R at *
  have HR := Aside0.mk hR
  clear hR
  go_enter Try.func43, Try.ntmps43
  go_wp2_with (first | (go_at_call 37; (with_reducible refine (line_calls _ g _ c0 b at_ V op row base dash (by first | exact H.out | exact H.out.drewN _) _ (by have := B0.out; omega) (by have := B1.out; omega)).mono ?_); rintro e w1 ⟨rfl, n1, rfl⟩))
  go_loopg [4] (line b at_ - at_).toNat (fun kq v w' => ∃ x : Int, v = .int .i64 x ∧ Aside0 (at_ + 1 ≤ x ∧ x ≤ line b at_ + 1 ∧ dbl b (line b at_) kq x = R ∧ line b at_ - x < (kq : Int)) ∧ Aside0 (∃ n, w' = W.drewN n))
  case atStart => exact ⟨at_ + 1, rfl, ⟨⟨Int.le_refl _, by omega, HR.out.symm, by omega⟩⟩, ⟨by repeat (first | exact dr0 _ | refine dr1 ?_ _)⟩⟩
  case round =>
    obtain ⟨x, rfl, HX, ⟨n, rfl⟩⟩ := hrel
    have hx0 := HX.out.1
    have hx1 := HX.out.2.1
    by_cases l1 : x < line b at_
    · have d1 : decide (x < line b at_) = true := decide_eq_true l1
      have L1 := Aside0.mk l1
      have l2 : x < (b.length : Int) := by omega
      obtain ⟨ad2, ea2, hx2⟩ := Kd.at_int H.out.C x (by omega) l2
      cases ea2
      have q1 : (0 ≤ x) = True := eq_true (by omega)
      have q2 : (x < (b.length : Int)) = True := eq_true l2
      have B2 := Aside0.mk l2
      obtain ⟨m, rfl⟩ : ∃ m, gk = m + 1 := ⟨gk - 1, by have := HX.out.2.2.2; omega⟩
      have HS := HX.out.2.2.1
      simp only [dbl] at HS
      rw [if_pos l1] at HS
      clear l1 l2
      by_cases c1 : rd b x = 34
      · have f1 : (rd b x == 34) = true := beq_iff_eq.mpr c1
        rw [if_pos c1] at HS
        clear c1
        have HS2 := Aside0.mk HS
        clear HS
        go_wp2
        go_ret
        exact ⟨by rw [← HX.out.2.2.1, HX.out.2.2.1, ← HS2.out]; rfl, by repeat (first | exact dr0 _ | refine dr1 ?_ _)⟩
      · have f1 : (rd b x == 34) = false := beq_eq_false_iff_ne.mpr c1
        rw [if_neg c1] at HS
        by_cases c2 : rd b x = 92
        · have f2 : (rd b x == 92) = true := beq_iff_eq.mpr c2
          rw [if_pos c2] at HS
          clear c1 c2
          have HS2 := Aside0.mk HS
          clear HS
          go_wp2
          go_roundg m
          case measure => omega
          case rel => exact ⟨x + 2, by first | rfl | exact congrArg (Value.int .i64) (by omega), ⟨⟨by omega, by have := L1.out; omega, HS2.out, by have := HX.out.2.2.2; omega⟩⟩, ⟨by repeat (first | exact dr0 _ | refine dr1 ?_ _)⟩⟩
        · have f2 : (rd b x == 92) = false := beq_eq_false_iff_ne.mpr c2
          rw [if_neg c2] at HS
          clear c1 c2
          have HS2 := Aside0.mk HS
          clear HS
          go_wp2
          go_roundg m
          case measure => omega
          case rel => exact ⟨x + 1, by first | rfl | exact congrArg (Value.int .i64) (by omega), ⟨⟨by omega, by have := L1.out; omega, HS2.out, by have := HX.out.2.2.2; omega⟩⟩, ⟨by repeat (first | exact dr0 _ | refine dr1 ?_ _)⟩⟩
    · have d1 : decide (x < line b at_) = false := decide_eq_false l1
      have L1 := Aside0.mk l1
      clear l1
      have HS : dbl b (line b at_) gk x = line b at_ := by
        cases gk with
        | zero => rfl
        | succ m => simp only [dbl]; rw [if_neg (by have := L1.out; omega)]
      have HS2 := Aside0.mk HS
      clear HS
      go_wp2
      go_ret
      exact ⟨by rw [← HX.out.2.2.1, HS2.out]; rfl, by repeat (first | exact dr0 _ | refine dr1 ?_ _)⟩

end Go.Proofs.Ythoogadfhopkfaa.Sc
