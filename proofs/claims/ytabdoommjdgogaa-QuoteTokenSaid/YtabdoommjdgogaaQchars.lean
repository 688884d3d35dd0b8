/- Proved here, in the forms of the print's contracts: what each Go function answers, and the rows of the laws over it; by a program and by hand. -/
import Derived.Test.YtabdoommjdgogaaQ0
import Derived.Test.YtabdoommjdgogaaQstrings
import Derived.Test.YtabdoommjdgogaaQutf8
namespace Go.Proofs.Ytabdoommjdgogaa.Q
open Go.RowKit Go.Proofs.YtabdoommjdgogaaW.PrintWords Go.Proofs.YtabdoommjdgogaaW.PrintLast Go.Proofs.YtabdoommjdgogaaW.PrintMore
attribute [local go_sem] max2_int min2_int max_two min_two max_three min_three max_four min_four   -- for this text's walks alone
set_option linter.unusedVariables false
set_option linter.unusedSimpArgs false

/-! ### chars_plain: function 74 -/
def chars_plain.f (a0 : Int) : Option (ByteArray × Bool) := if a0 = 48 then (some ((⟨#[0]⟩ : ByteArray), true)) else (if a0 = 116 then (some ((⟨#[9]⟩ : ByteArray), true)) else (if a0 = 110 then (some ((⟨#[10]⟩ : ByteArray), true)) else (if a0 = 114 then (some ((⟨#[13]⟩ : ByteArray), true)) else (if a0 = 101 then (some ((⟨#[27]⟩ : ByteArray), true)) else ((strings_IndexByte.f (⟨#[34, 47, 92, 32]⟩ : ByteArray) a0).bind fun t111 => (if t111 ≥ 0 then (some (Utf8.encode (wrap32 (a0)), true)) else (some ((⟨#[]⟩ : ByteArray), false))))))))
set_option maxHeartbeats 8000000 in
set_option maxRecDepth 100000 in
theorem chars_plain.calls (a0 : Int) (r1 : ByteArray) (r2 : Bool) (w : World) (h : chars_plain.f a0 = some (r1, r2)) :
    Calls Try.prog 74 #[.int .u8 a0] w fun e w' => e = .returned (.tuple #[.string r1, .bool r2]) ∧ Drawn0 w w' := by
  have H : (if a0 = 48 then (some ((⟨#[0]⟩ : ByteArray), true)) else (if a0 = 116 then (some ((⟨#[9]⟩ : ByteArray), true)) else (if a0 = 110 then (some ((⟨#[10]⟩ : ByteArray), true)) else (if a0 = 114 then (some ((⟨#[13]⟩ : ByteArray), true)) else (if a0 = 101 then (some ((⟨#[27]⟩ : ByteArray), true)) else ((strings_IndexByte.f (⟨#[34, 47, 92, 32]⟩ : ByteArray) a0).bind fun t111 => (if t111 ≥ 0 then (some (Utf8.encode (wrap32 (a0)), true)) else (some ((⟨#[]⟩ : ByteArray), false))))))))) = some (r1, r2) := h
  clear h
  by_cases c2 : a0 = 48
  · rw [if_pos c2] at H
    have c2b0 : (a0 == 48) = true := beq_iff_eq.mpr c2
    have c2b1 : (a0 != 48) = false := bne_eq_false_iff_eq.mpr c2
    clear c2
    simp only [Option.some.injEq, Prod.mk.injEq] at H
    obtain ⟨rfl, rfl⟩ := H
    go_enter Try.func74, Try.ntmps74
    go_wp2
    go_ret2
    exact ⟨by first | rfl | (simp; done) | (simp [*]; done), by repeat (first | exact Drawn0.refl _ | apply Drawn0.step)⟩
  · rw [if_neg c2] at H
    have c2b0 : (a0 == 48) = false := beq_eq_false_iff_ne.mpr c2
    have c2b1 : (a0 != 48) = true := bne_iff_ne.mpr c2
    by_cases c3 : a0 = 116
    · rw [if_pos c3] at H
      have c3b0 : (a0 == 116) = true := beq_iff_eq.mpr c3
      have c3b1 : (a0 != 116) = false := bne_eq_false_iff_eq.mpr c3
      clear c3
      simp only [Option.some.injEq, Prod.mk.injEq] at H
      obtain ⟨rfl, rfl⟩ := H
      go_enter Try.func74, Try.ntmps74
      go_wp2
      go_ret2
      exact ⟨by first | rfl | (simp; done) | (simp [*]; done), by repeat (first | exact Drawn0.refl _ | apply Drawn0.step)⟩
    · rw [if_neg c3] at H
      have c3b0 : (a0 == 116) = false := beq_eq_false_iff_ne.mpr c3
      have c3b1 : (a0 != 116) = true := bne_iff_ne.mpr c3
      by_cases c4 : a0 = 110
      · rw [if_pos c4] at H
        have c4b0 : (a0 == 110) = true := beq_iff_eq.mpr c4
        have c4b1 : (a0 != 110) = false := bne_eq_false_iff_eq.mpr c4
        clear c4
        simp only [Option.some.injEq, Prod.mk.injEq] at H
        obtain ⟨rfl, rfl⟩ := H
        go_enter Try.func74, Try.ntmps74
        go_wp2
        go_ret2
        exact ⟨by first | rfl | (simp; done) | (simp [*]; done), by repeat (first | exact Drawn0.refl _ | apply Drawn0.step)⟩
      · rw [if_neg c4] at H
        have c4b0 : (a0 == 110) = false := beq_eq_false_iff_ne.mpr c4
        have c4b1 : (a0 != 110) = true := bne_iff_ne.mpr c4
        by_cases c5 : a0 = 114
        · rw [if_pos c5] at H
          have c5b0 : (a0 == 114) = true := beq_iff_eq.mpr c5
          have c5b1 : (a0 != 114) = false := bne_eq_false_iff_eq.mpr c5
          clear c5
          simp only [Option.some.injEq, Prod.mk.injEq] at H
          obtain ⟨rfl, rfl⟩ := H
          go_enter Try.func74, Try.ntmps74
          go_wp2
          go_ret2
          exact ⟨by first | rfl | (simp; done) | (simp [*]; done), by repeat (first | exact Drawn0.refl _ | apply Drawn0.step)⟩
        · rw [if_neg c5] at H
          have c5b0 : (a0 == 114) = false := beq_eq_false_iff_ne.mpr c5
          have c5b1 : (a0 != 114) = true := bne_iff_ne.mpr c5
          by_cases c6 : a0 = 101
          · rw [if_pos c6] at H
            have c6b0 : (a0 == 101) = true := beq_iff_eq.mpr c6
            have c6b1 : (a0 != 101) = false := bne_eq_false_iff_eq.mpr c6
            clear c6
            simp only [Option.some.injEq, Prod.mk.injEq] at H
            obtain ⟨rfl, rfl⟩ := H
            go_enter Try.func74, Try.ntmps74
            go_wp2
            go_ret2
            exact ⟨by first | rfl | (simp; done) | (simp [*]; done), by repeat (first | exact Drawn0.refl _ | apply Drawn0.step)⟩
          · rw [if_neg c6] at H
            have c6b0 : (a0 == 101) = false := beq_eq_false_iff_ne.mpr c6
            have c6b1 : (a0 != 101) = true := bne_iff_ne.mpr c6
            replace H := Option.bind_eq_some_iff.mp H
            obtain ⟨t111, A70, H⟩ := H
            replace H : (if t111 ≥ 0 then (some (Utf8.encode (wrap32 (a0)), true)) else (some ((⟨#[]⟩ : ByteArray), false))) = some (r1, r2) := H
            have A7 := Aside0.mk A70
            clear A70
            by_cases c8 : t111 ≥ 0
            · rw [if_pos c8] at H
              have c8b0 : decide (0 ≤ t111) = true := decide_eq_true c8
              clear c8
              simp only [Option.some.injEq, Prod.mk.injEq] at H
              obtain ⟨rfl, rfl⟩ := H
              go_enter Try.func74, Try.ntmps74
              go_wp2_with (first | ((with_reducible refine gate_callee (f := 78) rfl ?_); refine goesL_ (some 16) rfl rfl Try.func78 (by kernel_rfl) rfl #[.string (⟨#[34, 47, 92, 32]⟩ : ByteArray), .int .u8 a0] rfl (by (try simp only [List.map_toArray, List.map_cons, List.map_nil]); first | done | rfl | (simp only [List.length_drop, List.length_take]; rfl) | (simp only [ByteArray.size_extract, Nat.min_self]; done) | (simp only [ByteArray.size_extract, Nat.min_self]; rfl)) ?_; (with_reducible refine (strings_IndexByte.calls (⟨#[34, 47, 92, 32]⟩ : ByteArray) a0 t111 _ A7.out).mono ?_); rintro e w' ⟨rfl, ⟨nd, rfl⟩⟩; refine ⟨_, rfl, ?_⟩))
              go_ret2
              exact ⟨by first | rfl | (simp; done) | (simp [*]; done), by repeat (first | exact Drawn0.refl _ | apply Drawn0.step)⟩
            · rw [if_neg c8] at H
              have c8b0 : decide (0 ≤ t111) = false := decide_eq_false c8
              clear c8
              simp only [Option.some.injEq, Prod.mk.injEq] at H
              obtain ⟨rfl, rfl⟩ := H
              go_enter Try.func74, Try.ntmps74
              go_wp2_with (first | ((with_reducible refine gate_callee (f := 78) rfl ?_); refine goesL_ (some 16) rfl rfl Try.func78 (by kernel_rfl) rfl #[.string (⟨#[34, 47, 92, 32]⟩ : ByteArray), .int .u8 a0] rfl (by (try simp only [List.map_toArray, List.map_cons, List.map_nil]); first | done | rfl | (simp only [List.length_drop, List.length_take]; rfl) | (simp only [ByteArray.size_extract, Nat.min_self]; done) | (simp only [ByteArray.size_extract, Nat.min_self]; rfl)) ?_; (with_reducible refine (strings_IndexByte.calls (⟨#[34, 47, 92, 32]⟩ : ByteArray) a0 t111 _ A7.out).mono ?_); rintro e w' ⟨rfl, ⟨nd, rfl⟩⟩; refine ⟨_, rfl, ?_⟩))
              go_ret2
              exact ⟨by first | rfl | (simp; done) | (simp [*]; done), by repeat (first | exact Drawn0.refl _ | apply Drawn0.step)⟩

/-! ### chars_digits: function 75 -/
def chars_digits.f (a0 : Int) : Option (Int) := if a0 = 120 then (some 2) else (if a0 = 117 then (some 4) else (if a0 = 85 then (some 8) else (some 0)))
set_option maxHeartbeats 8000000 in
set_option maxRecDepth 100000 in
theorem chars_digits.calls (a0 : Int) (r : Int) (w : World) (h : chars_digits.f a0 = some r) :
    Calls Try.prog 75 #[.int .u8 a0] w fun e w' => e = .returned (.int .i64 r) ∧ Drawn0 w w' := by
  have H : (if a0 = 120 then (some 2) else (if a0 = 117 then (some 4) else (if a0 = 85 then (some 8) else (some 0)))) = some r := h
  clear h
  by_cases c2 : a0 = 120
  · rw [if_pos c2] at H
    have c2b0 : (a0 == 120) = true := beq_iff_eq.mpr c2
    have c2b1 : (a0 != 120) = false := bne_eq_false_iff_eq.mpr c2
    clear c2
    obtain rfl := Option.some.inj H
    go_enter Try.func75, Try.ntmps75
    go_wp2
    go_ret
    exact ⟨by first | rfl | (simp; done) | (simp [*]; done), by repeat (first | exact Drawn0.refl _ | apply Drawn0.step)⟩
  · rw [if_neg c2] at H
    have c2b0 : (a0 == 120) = false := beq_eq_false_iff_ne.mpr c2
    have c2b1 : (a0 != 120) = true := bne_iff_ne.mpr c2
    by_cases c3 : a0 = 117
    · rw [if_pos c3] at H
      have c3b0 : (a0 == 117) = true := beq_iff_eq.mpr c3
      have c3b1 : (a0 != 117) = false := bne_eq_false_iff_eq.mpr c3
      clear c3
      obtain rfl := Option.some.inj H
      go_enter Try.func75, Try.ntmps75
      go_wp2
      go_ret
      exact ⟨by first | rfl | (simp; done) | (simp [*]; done), by repeat (first | exact Drawn0.refl _ | apply Drawn0.step)⟩
    · rw [if_neg c3] at H
      have c3b0 : (a0 == 117) = false := beq_eq_false_iff_ne.mpr c3
      have c3b1 : (a0 != 117) = true := bne_iff_ne.mpr c3
      by_cases c4 : a0 = 85
      · rw [if_pos c4] at H
        have c4b0 : (a0 == 85) = true := beq_iff_eq.mpr c4
        have c4b1 : (a0 != 85) = false := bne_eq_false_iff_eq.mpr c4
        clear c4
        obtain rfl := Option.some.inj H
        go_enter Try.func75, Try.ntmps75
        go_wp2
        go_ret
        exact ⟨by first | rfl | (simp; done) | (simp [*]; done), by repeat (first | exact Drawn0.refl _ | apply Drawn0.step)⟩
      · rw [if_neg c4] at H
        have c4b0 : (a0 == 85) = false := beq_eq_false_iff_ne.mpr c4
        have c4b1 : (a0 != 85) = true := bne_iff_ne.mpr c4
        obtain rfl := Option.some.inj H
        go_enter Try.func75, Try.ntmps75
        go_wp2
        go_ret
        exact ⟨by first | rfl | (simp; done) | (simp [*]; done), by repeat (first | exact Drawn0.refl _ | apply Drawn0.step)⟩

/-! ### chars_number: function 76 -/
mutual
def chars_number.l0 : Nat → Int → ByteArray → Int → Option (Int)
  | 0, _, _, _ => none
  | k + 1, x3, x113000, x113001 => if 0 ≤ x113001 then (if x113001 < (x113000.size : Int) then (if (rdRune x113000 x113001) ≥ 48 then (chars_number.j1 k x3 (rdRune x113000 x113001) (decide ((rdRune x113000 x113001) ≤ 57)) x113000 (rdNext x113000 x113001)) else (chars_number.j1 k x3 (rdRune x113000 x113001) false x113000 (rdNext x113000 x113001))) else (some x3)) else (none)
def chars_number.j1 : Nat → Int → Int → Bool → ByteArray → Int → Option (Int)
  | 0, _, _, _, _, _ => none
  | k + 1, x3, x5, x11, x113000, x113001 => if x11 = true then (chars_number.l0 k (wrap64 ((wrap64 (16 * x3)) + (wrap64 (wrap32 (x5 - 48))))) x113000 x113001) else (if x5 ≥ 97 then (chars_number.j2 k x3 x5 (decide (x5 ≤ 102)) x113000 x113001) else (chars_number.j2 k x3 x5 false x113000 x113001))
def chars_number.j2 : Nat → Int → Int → Bool → ByteArray → Int → Option (Int)
  | 0, _, _, _, _, _ => none
  | k + 1, x3, x5, x24, x113000, x113001 => if x24 = true then (chars_number.l0 k (wrap64 ((wrap64 ((wrap64 (16 * x3)) + (wrap64 (wrap32 (x5 - 97))))) + 10)) x113000 x113001) else (if x5 ≥ 65 then (if x5 ≤ 70 then (chars_number.l0 k (wrap64 ((wrap64 ((wrap64 (16 * x3)) + (wrap64 (wrap32 (x5 - 65))))) + 10)) x113000 x113001) else (some (-1))) else (some (-1)))
end
def chars_number.f (k : Nat) (a0 : ByteArray) : Option (Int) := chars_number.l0 k 0 a0 0
theorem chars_number.mono_l : ∀ k, (∀ y0 y1 y2, LeO (chars_number.l0 k y0 y1 y2) (chars_number.l0 (k + 1) y0 y1 y2)) ∧ (∀ y0 y1 y2 y3 y4, LeO (chars_number.j1 k y0 y1 y2 y3 y4) (chars_number.j1 (k + 1) y0 y1 y2 y3 y4)) ∧ (∀ y0 y1 y2 y3 y4, LeO (chars_number.j2 k y0 y1 y2 y3 y4) (chars_number.j2 (k + 1) y0 y1 y2 y3 y4))
  | 0 => ⟨fun _ _ _ r h => by simp [chars_number.l0] at h, fun _ _ _ _ _ r h => by simp [chars_number.j1] at h, fun _ _ _ _ _ r h => by simp [chars_number.j2] at h⟩
  | k + 1 => by
    obtain ⟨ih0, ih1, ih2⟩ := chars_number.mono_l k
    refine ⟨?_, ?_, ?_⟩
    · intro y0 y1 y2
      unfold chars_number.l0
      repeat' first
      | (with_reducible exact ih0 _ _ _)
      | (with_reducible exact ih1 _ _ _ _ _)
      | (with_reducible exact ih2 _ _ _ _ _)
      | (with_reducible exact LeO.refl _)
      | (with_reducible exact LeO.none _)
      | (with_reducible refine LeO.ite ?_ ?_)
      | (with_reducible refine LeO.bind ?_ (fun _ => ?_))
      | exact ih0 _ _ _
      | exact ih1 _ _ _ _ _
      | exact ih2 _ _ _ _ _
      | exact LeO.none _
      | refine LeO.ite ?_ ?_
      | refine LeO.bind ?_ (fun _ => ?_)
    · intro y0 y1 y2 y3 y4
      unfold chars_number.j1
      repeat' first
      | (with_reducible exact ih0 _ _ _)
      | (with_reducible exact ih1 _ _ _ _ _)
      | (with_reducible exact ih2 _ _ _ _ _)
      | (with_reducible exact LeO.refl _)
      | (with_reducible exact LeO.none _)
      | (with_reducible refine LeO.ite ?_ ?_)
      | (with_reducible refine LeO.bind ?_ (fun _ => ?_))
      | exact ih0 _ _ _
      | exact ih1 _ _ _ _ _
      | exact ih2 _ _ _ _ _
      | exact LeO.none _
      | refine LeO.ite ?_ ?_
      | refine LeO.bind ?_ (fun _ => ?_)
    · intro y0 y1 y2 y3 y4
      unfold chars_number.j2
      repeat' first
      | (with_reducible exact ih0 _ _ _)
      | (with_reducible exact ih1 _ _ _ _ _)
      | (with_reducible exact ih2 _ _ _ _ _)
      | (with_reducible exact LeO.refl _)
      | (with_reducible exact LeO.none _)
      | (with_reducible refine LeO.ite ?_ ?_)
      | (with_reducible refine LeO.bind ?_ (fun _ => ?_))
      | exact ih0 _ _ _
      | exact ih1 _ _ _ _ _
      | exact ih2 _ _ _ _ _
      | exact LeO.none _
      | refine LeO.ite ?_ ?_
      | refine LeO.bind ?_ (fun _ => ?_)
theorem chars_number.mono : ∀ a0 k, LeO (chars_number.f k a0) (chars_number.f (k + 1) a0) := by
  intro a0 k
  obtain ⟨ih0, ih1, ih2⟩ := chars_number.mono_l k
  unfold chars_number.f
  repeat' first
      | (with_reducible exact ih0 _ _ _)
      | (with_reducible exact ih1 _ _ _ _ _)
      | (with_reducible exact ih2 _ _ _ _ _)
      | (with_reducible exact LeO.refl _)
      | (with_reducible exact LeO.none _)
      | (with_reducible refine LeO.ite ?_ ?_)
      | (with_reducible refine LeO.bind ?_ (fun _ => ?_))
      | exact ih0 _ _ _
      | exact ih1 _ _ _ _ _
      | exact ih2 _ _ _ _ _
      | exact LeO.none _
      | refine LeO.ite ?_ ?_
      | refine LeO.bind ?_ (fun _ => ?_)
set_option maxHeartbeats 8000000 in
set_option maxRecDepth 100000 in
theorem chars_number.calls (k : Nat) (a0 : ByteArray) (r : Int) (w : World) (h : chars_number.f k a0 = some r) :
    Calls Try.prog 76 #[.string a0] w fun e w' => e = .returned (.int .i64 r) ∧ Below w.heap.size w w' := by
  have HB := Aside0.mk (Below.refl w.heap.size w)
  have H : (chars_number.l0 k 0 a0 0) = some r := h
  clear h
  have H' := Aside0.mk H
  clear H
  go_enter Try.func76, Try.ntmps76
  go_wp2_with (first | ((with_reducible refine gate_dst (N := 7) rfl ?_); refine iter_event ?hg (N := 7) ?hd (s := a0) ?hr ?_; (case hd => rfl); (case hg => rfl); (case hr => first | (go_simp; done) | (go_simp; rfl)); intro gb112 hg w2 hbox hb; have n0_ := Aside0.mk (below_step (by repeat (first | (with_reducible first | exact HB.out | apply below_alloc | apply pw_below_drewN | apply below_drew1) | exact HB.out)) hb); have n1_ := Aside0.mk (hbox); have n2_ := Aside0.mk ((by rw [hg]; exact (below_size (by repeat (first | (with_reducible first | exact HB.out | apply below_alloc | apply pw_below_drewN | apply below_drew1) | exact HB.out))) : w.heap.size ≤ gb112)); have n3_ := Aside0.mk ((by rw [hg]; exact (below_size (by repeat (first | (with_reducible first | exact HB.out | apply below_alloc | apply pw_below_drewN | apply below_drew1) | exact HB.out))) : w.heap.size ≤ gb112)); clear HB; have HB := n0_; have BK112 := n1_; have GW112 := n2_; have GE112 := n3_; clear n0_ n1_ n2_ n3_; clear hb hbox hg))
  (try simp only [Act.put, List.setIfInBounds_toArray, List.set_cons_zero, List.set_cons_succ])
  go_loopg [3] k (fun kq v3 w' => ∃ (x3_1 : Int) (x113001_1 : Int), v3 = .int .i64 x3_1 ∧ Aside0 (chars_number.l0 kq x3_1 a0 x113001_1 = some r) ∧ Aside0 (kq ≤ k) ∧ Aside0 (w'.heap[gb112]? = some (.stringIter a0 (x113001_1 : Int).toNat)) ∧ Aside0 (Below w.heap.size w w'))
  case atStart => exact ⟨(0), (0), (by first | rfl | (simp; done) | (simp [*]; done)), H', ⟨Nat.le_refl _⟩, ⟨by (with_reducible repeat (first | refine blk_drewN ?_ _ | refine blk_drew ?_ | refine blk_alloc ?_ _)); exact BK112.out⟩, ⟨by repeat (first | (with_reducible first | exact HB.out | apply below_alloc | apply pw_below_drewN | apply below_drew1 | refine below_set ?_ GE112.out) | exact HB.out)⟩⟩
  case round =>
    clear H'
    try clear p2
    obtain ⟨x3_1, x113001_1, rfl, HA, HK1, BK112, HB⟩ := hrel
    cases gk with
    | zero => exact absurd HA.out (by simp [chars_number.l0])
    | succ k1 =>
      have H := HA.out
      clear HA
      simp only [chars_number.l0] at H
      by_cases c3 : 0 ≤ x113001_1
      · rw [if_pos c3] at H
        have c3b0 : decide (0 ≤ x113001_1) = true := decide_eq_true c3
        clear c3
        by_cases c4 : x113001_1 < (a0.size : Int)
        · rw [if_pos c4] at H
          have c4b0 : decide (x113001_1 < (a0.size : Int)) = true := decide_eq_true c4
          clear c4
          have HC5 := Aside0.mk H
          clear H
          have pn6 : Aside0 (0 ≤ (x113001_1 : Int)) := ⟨of_decide_eq_true (by first | (with_reducible assumption) | assumption)⟩
          have qn6 : Aside0 (x113001_1 < (a0.size : Int)) := ⟨of_decide_eq_true (by first | (with_reducible assumption) | assumption)⟩
          go_upto_region 6 with (first | ((with_reducible refine gate_dst (N := 8) rfl ?_); refine next_event ?hg (N := 8) ?hd ?ho (x := .tmp 7) (g := gb112) (s := a0) (p := x113001_1) ?hx BK112.out pn6.out qn6.out ?_; (case hd => rfl); (case hg => rfl); (case ho => rfl); (case hx => rfl); intro w7 hit hg; have n0_ := Aside0.mk (hit); have n1_ := Aside0.mk (pw_below_grown (by repeat (first | (with_reducible first | exact HB.out | apply below_alloc | apply pw_below_drewN | apply below_drew1 | refine below_set ?_ GE112.out) | exact HB.out)) (some gb112) ((below_size (by repeat (first | (with_reducible first | exact HB.out | apply below_alloc | apply pw_below_drewN | apply below_drew1 | refine below_set ?_ GE112.out) | exact HB.out)))) hg (fun k_ e_ => by injection e_ with e_; subst e_; exact GW112.out)); clear BK112; clear HB; have BK112 := n0_; have HB := n1_; clear n0_ n1_; clear hit hg))
          (try simp only [Act.put, List.setIfInBounds_toArray, List.set_cons_zero, List.set_cons_succ])
          go_cut [11] (fun v11 wc => ∃ (kq : Nat) (x11_4 : Bool), v11 = .bool x11_4 ∧ Aside0 (chars_number.j1 kq x3_1 (rdRune a0 x113001_1) x11_4 a0 (rdNext a0 x113001_1) = some r) ∧ Aside0 (kq ≤ k1) ∧ Aside0 (wc.heap[gb112]? = some (.stringIter a0 ((rdNext a0 x113001_1) : Int).toNat)) ∧ Aside0 (Below w.heap.size w wc))
          case first =>
            have H := HC5.out
            clear HC5
            by_cases c8 : (rdRune a0 x113001_1) ≥ 48
            · rw [if_pos c8] at H
              have c8b0 : decide (48 ≤ (rdRune a0 x113001_1)) = true := decide_eq_true c8
              clear c8
              (first | rw [c8b0] | (simp only [i64_w, i32_w]; rw [c8b0]) | skip)
              have H' := Aside0.mk H
              clear H
              go_wp2
              go_meet
              case rel => exact ⟨_, (decide ((rdRune a0 x113001_1) ≤ 57)), (by first | rfl | (simp; done) | (simp [*]; done)), H', ⟨by have := HK1.out; first | omega | exact Nat.le_refl _⟩, ⟨by (with_reducible repeat (first | refine blk_drewN ?_ _ | refine blk_drew ?_ | refine blk_alloc ?_ _)); exact BK112.out⟩, ⟨by repeat (first | (with_reducible first | exact HB.out | apply below_alloc | apply pw_below_drewN | apply below_drew1 | refine below_set ?_ GE112.out) | exact HB.out)⟩⟩
            · rw [if_neg c8] at H
              have c8b0 : decide (48 ≤ (rdRune a0 x113001_1)) = false := decide_eq_false c8
              clear c8
              (first | rw [c8b0] | (simp only [i64_w, i32_w]; rw [c8b0]) | skip)
              have H' := Aside0.mk H
              clear H
              go_wp2
              go_meet
              case rel => exact ⟨_, (false), (by first | rfl | (simp; done) | (simp [*]; done)), H', ⟨by have := HK1.out; first | omega | exact Nat.le_refl _⟩, ⟨by (with_reducible repeat (first | refine blk_drewN ?_ _ | refine blk_drew ?_ | refine blk_alloc ?_ _)); exact BK112.out⟩, ⟨by repeat (first | (with_reducible first | exact HB.out | apply below_alloc | apply pw_below_drewN | apply below_drew1 | refine below_set ?_ GE112.out) | exact HB.out)⟩⟩
          case rest =>
            clear HC5
            try clear p2
            try clear c3
            try clear c3b0
            try clear c4
            try clear c4b0
            try clear c7
            try clear c8
            try clear c8b0
            try clear p2
            obtain ⟨kq, x11_4, rfl, HA, HJ4, BK112, HB⟩ := hcut
            cases kq with
            | zero => exact absurd HA.out (by simp [chars_number.j1])
            | succ kj4 =>
              have H := HA.out
              clear HA
              simp only [chars_number.j1] at H
              by_cases c9 : x11_4 = true
              · subst c9
                have H1 : (chars_number.l0 kj4 (wrap64 ((wrap64 (16 * x3_1)) + (wrap64 (wrap32 ((rdRune a0 x113001_1) - 48))))) a0 (rdNext a0 x113001_1)) = some r := by rw [if_pos rfl] at H; exact H
                clear H
                have H := H1
                clear H1
                have H' := Aside0.mk H
                clear H
                go_wp2
                go_roundg kj4
                case measure => have := HK1.out; have := HJ4.out; omega
                case rel => exact ⟨(wrap64 ((wrap64 (16 * x3_1)) + (wrap64 (wrap32 ((rdRune a0 x113001_1) - 48))))), ((rdNext a0 x113001_1)), (by first | rfl | (simp; done) | (simp [*]; done)), H', ⟨by have := HK1.out; have := HJ4.out; omega⟩, ⟨by (with_reducible repeat (first | refine blk_drewN ?_ _ | refine blk_drew ?_ | refine blk_alloc ?_ _)); exact BK112.out⟩, ⟨by repeat (first | (with_reducible first | exact HB.out | apply below_alloc | apply pw_below_drewN | apply below_drew1 | refine below_set ?_ GE112.out) | exact HB.out)⟩⟩
              · replace c9 := Bool.eq_false_iff.mpr c9
                subst c9
                have H1 : (if (rdRune a0 x113001_1) ≥ 97 then (chars_number.j2 kj4 x3_1 (rdRune a0 x113001_1) (decide ((rdRune a0 x113001_1) ≤ 102)) a0 (rdNext a0 x113001_1)) else (chars_number.j2 kj4 x3_1 (rdRune a0 x113001_1) false a0 (rdNext a0 x113001_1))) = some r := by rw [if_neg (show ¬ (false = true) by decide)] at H; exact H
                clear H
                have H := H1
                clear H1
                have HC10 := Aside0.mk H
                clear H
                go_upto_region 8 with (fail)
                go_cut [24] (fun v24 wc => ∃ (kq : Nat) (x24_9 : Bool), v24 = .bool x24_9 ∧ Aside0 (chars_number.j2 kq x3_1 (rdRune a0 x113001_1) x24_9 a0 (rdNext a0 x113001_1) = some r) ∧ Aside0 (kq ≤ kj4) ∧ Aside0 (wc.heap[gb112]? = some (.stringIter a0 ((rdNext a0 x113001_1) : Int).toNat)) ∧ Aside0 (Below w.heap.size w wc))
                case first =>
                  have H := HC10.out
                  clear HC10
                  by_cases c11 : (rdRune a0 x113001_1) ≥ 97
                  · rw [if_pos c11] at H
                    have c11b0 : decide (97 ≤ (rdRune a0 x113001_1)) = true := decide_eq_true c11
                    clear c11
                    (first | rw [c11b0] | (simp only [i64_w, i32_w]; rw [c11b0]) | skip)
                    have H' := Aside0.mk H
                    clear H
                    go_wp2
                    go_meet
                    case rel => exact ⟨_, (decide ((rdRune a0 x113001_1) ≤ 102)), (by first | rfl | (simp; done) | (simp [*]; done)), H', ⟨by have := HK1.out; have := HJ4.out; first | omega | exact Nat.le_refl _⟩, ⟨by (with_reducible repeat (first | refine blk_drewN ?_ _ | refine blk_drew ?_ | refine blk_alloc ?_ _)); exact BK112.out⟩, ⟨by repeat (first | (with_reducible first | exact HB.out | apply below_alloc | apply pw_below_drewN | apply below_drew1 | refine below_set ?_ GE112.out) | exact HB.out)⟩⟩
                  · rw [if_neg c11] at H
                    have c11b0 : decide (97 ≤ (rdRune a0 x113001_1)) = false := decide_eq_false c11
                    clear c11
                    (first | rw [c11b0] | (simp only [i64_w, i32_w]; rw [c11b0]) | skip)
                    have H' := Aside0.mk H
                    clear H
                    go_wp2
                    go_meet
                    case rel => exact ⟨_, (false), (by first | rfl | (simp; done) | (simp [*]; done)), H', ⟨by have := HK1.out; have := HJ4.out; first | omega | exact Nat.le_refl _⟩, ⟨by (with_reducible repeat (first | refine blk_drewN ?_ _ | refine blk_drew ?_ | refine blk_alloc ?_ _)); exact BK112.out⟩, ⟨by repeat (first | (with_reducible first | exact HB.out | apply below_alloc | apply pw_below_drewN | apply below_drew1 | refine below_set ?_ GE112.out) | exact HB.out)⟩⟩
                case rest =>
                  clear HC10
                  try clear c1
                  try clear p2
                  try clear c3
                  try clear c3b0
                  try clear p3
                  try clear c4
                  try clear c4b0
                  try clear p6
                  try clear c7
                  try clear c8
                  try clear c8b0
                  try clear c9
                  try clear c11
                  try clear c11b0
                  try clear p2
                  obtain ⟨kq, x24_9, rfl, HA, HJ9, BK112, HB⟩ := hcut
                  cases kq with
                  | zero => exact absurd HA.out (by simp [chars_number.j2])
                  | succ kj9 =>
                    have H := HA.out
                    clear HA
                    simp only [chars_number.j2] at H
                    by_cases c12 : x24_9 = true
                    · subst c12
                      have H1 : (chars_number.l0 kj9 (wrap64 ((wrap64 ((wrap64 (16 * x3_1)) + (wrap64 (wrap32 ((rdRune a0 x113001_1) - 97))))) + 10)) a0 (rdNext a0 x113001_1)) = some r := by rw [if_pos rfl] at H; exact H
                      clear H
                      have H := H1
                      clear H1
                      have H' := Aside0.mk H
                      clear H
                      go_wp2
                      go_roundg kj9
                      case measure => have := HK1.out; have := HJ4.out; have := HJ9.out; omega
                      case rel => exact ⟨(wrap64 ((wrap64 ((wrap64 (16 * x3_1)) + (wrap64 (wrap32 ((rdRune a0 x113001_1) - 97))))) + 10)), ((rdNext a0 x113001_1)), (by first | rfl | (simp; done) | (simp [*]; done)), H', ⟨by have := HK1.out; have := HJ4.out; have := HJ9.out; omega⟩, ⟨by (with_reducible repeat (first | refine blk_drewN ?_ _ | refine blk_drew ?_ | refine blk_alloc ?_ _)); exact BK112.out⟩, ⟨by repeat (first | (with_reducible first | exact HB.out | apply below_alloc | apply pw_below_drewN | apply below_drew1 | refine below_set ?_ GE112.out) | exact HB.out)⟩⟩
                    · replace c12 := Bool.eq_false_iff.mpr c12
                      subst c12
                      have H1 : (if (rdRune a0 x113001_1) ≥ 65 then (if (rdRune a0 x113001_1) ≤ 70 then (chars_number.l0 kj9 (wrap64 ((wrap64 ((wrap64 (16 * x3_1)) + (wrap64 (wrap32 ((rdRune a0 x113001_1) - 65))))) + 10)) a0 (rdNext a0 x113001_1)) else (some (-1))) else (some (-1))) = some r := by rw [if_neg (show ¬ (false = true) by decide)] at H; exact H
                      clear H
                      have H := H1
                      clear H1
                      by_cases c13 : (rdRune a0 x113001_1) ≥ 65
                      · rw [if_pos c13] at H
                        have c13b0 : decide (65 ≤ (rdRune a0 x113001_1)) = true := decide_eq_true c13
                        clear c13
                        by_cases c14 : (rdRune a0 x113001_1) ≤ 70
                        · rw [if_pos c14] at H
                          have c14b0 : decide ((rdRune a0 x113001_1) ≤ 70) = true := decide_eq_true c14
                          clear c14
                          have H' := Aside0.mk H
                          clear H
                          go_wp2
                          go_roundg kj9
                          case measure => have := HK1.out; have := HJ4.out; have := HJ9.out; omega
                          case rel => exact ⟨(wrap64 ((wrap64 ((wrap64 (16 * x3_1)) + (wrap64 (wrap32 ((rdRune a0 x113001_1) - 65))))) + 10)), ((rdNext a0 x113001_1)), (by first | rfl | (simp; done) | (simp [*]; done)), H', ⟨by have := HK1.out; have := HJ4.out; have := HJ9.out; omega⟩, ⟨by (with_reducible repeat (first | refine blk_drewN ?_ _ | refine blk_drew ?_ | refine blk_alloc ?_ _)); exact BK112.out⟩, ⟨by repeat (first | (with_reducible first | exact HB.out | apply below_alloc | apply pw_below_drewN | apply below_drew1 | refine below_set ?_ GE112.out) | exact HB.out)⟩⟩
                        · rw [if_neg c14] at H
                          have c14b0 : decide ((rdRune a0 x113001_1) ≤ 70) = false := decide_eq_false c14
                          clear c14
                          obtain rfl := Option.some.inj H
                          go_wp2
                          go_ret
                          exact ⟨by first | rfl | (simp [errW_none, errW_some] <;> rfl) | (simp [*, errW_none, errW_some] <;> rfl), by repeat (first | (with_reducible first | exact HB.out | apply below_alloc | apply pw_below_drewN | apply below_drew1 | refine below_set ?_ GE112.out) | exact HB.out)⟩
                      · rw [if_neg c13] at H
                        have c13b0 : decide (65 ≤ (rdRune a0 x113001_1)) = false := decide_eq_false c13
                        clear c13
                        obtain rfl := Option.some.inj H
                        go_wp2
                        go_ret
                        exact ⟨by first | rfl | (simp [errW_none, errW_some] <;> rfl) | (simp [*, errW_none, errW_some] <;> rfl), by repeat (first | (with_reducible first | exact HB.out | apply below_alloc | apply pw_below_drewN | apply below_drew1 | refine below_set ?_ GE112.out) | exact HB.out)⟩
        · rw [if_neg c4] at H
          have c4b0 : decide (x113001_1 < (a0.size : Int)) = false := decide_eq_false c4
          clear c4
          obtain rfl := Option.some.inj H
          have hnx15 := next_end (P := Try.prog) (s := a0) (p := x113001_1) BK112.out (of_decide_eq_false (by first | (with_reducible assumption) | assumption))
          go_wp2
          go_ret
          exact ⟨by first | rfl | (simp [errW_none, errW_some] <;> rfl) | (simp [*, errW_none, errW_some] <;> rfl), by repeat (first | (with_reducible first | exact HB.out | apply below_alloc | apply pw_below_drewN | apply below_drew1 | refine below_set ?_ GE112.out) | exact HB.out)⟩
      · rw [if_neg c3] at H
        exact absurd H (by simp)

/-! ### chars_Escape: function 73 -/
mutual
def chars_Escape.j0 : Nat → ByteArray → Bool → Option (ByteArray × Int)
  | 0, _, _ => none
  | k + 1, x0, x15 => if x15 = true then (some ((⟨#[]⟩ : ByteArray), 0)) else (if 1 < (x0.size : Int) then ((chars_plain.f (bt x0 1)).bind fun bt113 => (if bt113.2 = true then (some (bt113.1, 2)) else ((chars_digits.f (bt x0 1)).bind fun t115 => (if t115 = 0 then (chars_Escape.j1 k x0 t115 true) else (chars_Escape.j1 k x0 t115 (decide ((x0.size : Int) < (wrap64 (2 + t115))))))))) else (none))
def chars_Escape.j1 : Nat → ByteArray → Int → Bool → Option (ByteArray × Int)
  | 0, _, _, _ => none
  | k + 1, x0, x6, x35 => if x35 = true then (some ((⟨#[]⟩ : ByteArray), 0)) else (if 2 ≤ (wrap64 (2 + x6)) then (if (wrap64 (2 + x6)) ≤ (x0.size : Int) then ((chars_number.f k (x0.extract 2 ((wrap64 (2 + x6)) : Int).toNat)).bind fun t116 => (if t116 < 0 then (some ((⟨#[]⟩ : ByteArray), 0)) else (if t116 > 1114111 then (some ((⟨#[]⟩ : ByteArray), 0)) else ((utf8_ValidRune.f k (wrap32 (t116))).bind fun t117 => (if t117 = true then (some (Utf8.encode (wrap32 (t116)), wrap64 (2 + x6))) else (some ((⟨#[]⟩ : ByteArray), 0))))))) else (none)) else (none))
end
def chars_Escape.f (k : Nat) (a0 : ByteArray) : Option (ByteArray × Int) := if (a0.size : Int) < 2 then (chars_Escape.j0 k a0 true) else (if 0 < (a0.size : Int) then (chars_Escape.j0 k a0 ((bt a0 0) != 92)) else (none))
theorem chars_Escape.mono_l : ∀ k, (∀ y0 y1, LeO (chars_Escape.j0 k y0 y1) (chars_Escape.j0 (k + 1) y0 y1)) ∧ (∀ y0 y1 y2, LeO (chars_Escape.j1 k y0 y1 y2) (chars_Escape.j1 (k + 1) y0 y1 y2))
  | 0 => ⟨fun _ _ r h => by simp [chars_Escape.j0] at h, fun _ _ _ r h => by simp [chars_Escape.j1] at h⟩
  | k + 1 => by
    obtain ⟨ih0, ih1⟩ := chars_Escape.mono_l k
    refine ⟨?_, ?_⟩
    · intro y0 y1
      unfold chars_Escape.j0
      repeat' first
      | (with_reducible exact ih0 _ _)
      | (with_reducible exact ih1 _ _ _)
      | (with_reducible exact chars_number.mono _ _)
      | (with_reducible exact utf8_ValidRune.mono _ _)
      | (with_reducible exact LeO.refl _)
      | (with_reducible exact LeO.none _)
      | (with_reducible refine LeO.ite ?_ ?_)
      | (with_reducible refine LeO.bind ?_ (fun _ => ?_))
      | exact ih0 _ _
      | exact ih1 _ _ _
      | exact chars_number.mono _ _
      | exact utf8_ValidRune.mono _ _
      | exact LeO.none _
      | refine LeO.ite ?_ ?_
      | refine LeO.bind ?_ (fun _ => ?_)
    · intro y0 y1 y2
      unfold chars_Escape.j1
      repeat' first
      | (with_reducible exact ih0 _ _)
      | (with_reducible exact ih1 _ _ _)
      | (with_reducible exact chars_number.mono _ _)
      | (with_reducible exact utf8_ValidRune.mono _ _)
      | (with_reducible exact LeO.refl _)
      | (with_reducible exact LeO.none _)
      | (with_reducible refine LeO.ite ?_ ?_)
      | (with_reducible refine LeO.bind ?_ (fun _ => ?_))
      | exact ih0 _ _
      | exact ih1 _ _ _
      | exact chars_number.mono _ _
      | exact utf8_ValidRune.mono _ _
      | exact LeO.none _
      | refine LeO.ite ?_ ?_
      | refine LeO.bind ?_ (fun _ => ?_)
theorem chars_Escape.mono : ∀ a0 k, LeO (chars_Escape.f k a0) (chars_Escape.f (k + 1) a0) := by
  intro a0 k
  obtain ⟨ih0, ih1⟩ := chars_Escape.mono_l k
  unfold chars_Escape.f
  repeat' first
      | (with_reducible exact ih0 _ _)
      | (with_reducible exact ih1 _ _ _)
      | (with_reducible exact chars_number.mono _ _)
      | (with_reducible exact utf8_ValidRune.mono _ _)
      | (with_reducible exact LeO.refl _)
      | (with_reducible exact LeO.none _)
      | (with_reducible refine LeO.ite ?_ ?_)
      | (with_reducible refine LeO.bind ?_ (fun _ => ?_))
      | exact ih0 _ _
      | exact ih1 _ _ _
      | exact chars_number.mono _ _
      | exact utf8_ValidRune.mono _ _
      | exact LeO.none _
      | refine LeO.ite ?_ ?_
      | refine LeO.bind ?_ (fun _ => ?_)
set_option maxHeartbeats 8000000 in
set_option maxRecDepth 100000 in
theorem chars_Escape.calls (k : Nat) (a0 : ByteArray) (r1 : ByteArray) (r2 : Int) (w : World) (h : chars_Escape.f k a0 = some (r1, r2)) :
    Calls Try.prog 73 #[.string a0] w fun e w' => e = .returned (.tuple #[.string r1, .int .i64 r2]) ∧ Below w.heap.size w w' := by
  have HB := Aside0.mk (Below.refl w.heap.size w)
  have H : (if (a0.size : Int) < 2 then (chars_Escape.j0 k a0 true) else (if 0 < (a0.size : Int) then (chars_Escape.j0 k a0 ((bt a0 0) != 92)) else (none))) = some (r1, r2) := h
  clear h
  have HC2 := Aside0.mk H
  clear H
  go_enter Try.func73, Try.ntmps73
  go_upto_region 1 with (fail)
  go_cut [15] (fun v15 wc => ∃ (kq : Nat) (x15_1 : Bool), v15 = .bool x15_1 ∧ Aside0 (chars_Escape.j0 kq a0 x15_1 = some (r1, r2)) ∧ Aside0 (kq ≤ k) ∧ Aside0 (Below w.heap.size w wc))
  case first =>
    have H := HC2.out
    clear HC2
    by_cases c3 : (a0.size : Int) < 2
    · rw [if_pos c3] at H
      have c3b0 : decide ((a0.size : Int) < 2) = true := decide_eq_true c3
      have c3b1 : decide (a0.size < 2) = true := decide_eq_true (by omega)
      clear c3
      (first | rw [c3b0] | (simp only [i64_w, i32_w]; rw [c3b0]) | skip)
      have H' := Aside0.mk H
      clear H
      go_wp2
      go_meet
      case rel => exact ⟨_, (true), (by first | rfl | (simp; done) | (simp [*]; done)), H', ⟨by first | omega | exact Nat.le_refl _⟩, ⟨by repeat (first | (with_reducible first | exact HB.out | apply below_alloc | apply pw_below_drewN | apply below_drew1) | exact HB.out)⟩⟩
    · rw [if_neg c3] at H
      have c3b0 : decide ((a0.size : Int) < 2) = false := decide_eq_false c3
      have c3b1 : decide (a0.size < 2) = false := decide_eq_false (by omega)
      clear c3
      (first | rw [c3b0] | (simp only [i64_w, i32_w]; rw [c3b0]) | skip)
      by_cases c4 : 0 < (a0.size : Int)
      · rw [if_pos c4] at H
        have c4b0 : decide (0 < (a0.size : Int)) = true := decide_eq_true c4
        have c4b1 : decide (0 < a0.size) = true := decide_eq_true (by omega)
        clear c4
        have H' := Aside0.mk H
        clear H
        have p5 : 0 ≤ (0 : Int) := (by omega)
        have q5 : 0 < a0.size := (by have : (0 : Int) < (a0.size : Int) := of_decide_eq_true (by first | (with_reducible assumption) | assumption); omega)
        have hx5 : ∀ h : 0 < a0.size, ((a0[0]'h).toNat : Int) = bt a0 0 := bt_at a0 0
        clear p5
        have qi5 : (0 < (a0.size : Int)) = True := eq_true (of_decide_eq_true (by first | (with_reducible assumption) | assumption))
        replace q5 := eq_true q5
        go_wp2
        go_meet
        case rel => exact ⟨_, (((bt a0 0) != 92)), (by first | rfl | (simp; done) | (simp [*]; done)), H', ⟨by first | omega | exact Nat.le_refl _⟩, ⟨by repeat (first | (with_reducible first | exact HB.out | apply below_alloc | apply pw_below_drewN | apply below_drew1) | exact HB.out)⟩⟩
      · rw [if_neg c4] at H
        exact absurd H (by simp)
  case rest =>
    clear HC2
    try clear p2
    try clear c3
    try clear c3b0
    try clear c3b1
    try clear c4
    try clear c4b0
    try clear c4b1
    try clear p5
    try clear q5
    try clear hx5
    try clear qi5
    try clear p5
    try clear q5
    obtain ⟨kq, x15_1, rfl, HA, HJ1, HB⟩ := hcut
    cases kq with
    | zero => exact absurd HA.out (by simp [chars_Escape.j0])
    | succ kj1 =>
      have H := HA.out
      clear HA
      simp only [chars_Escape.j0] at H
      by_cases c6 : x15_1 = true
      · subst c6
        have H1 : (some ((⟨#[]⟩ : ByteArray), 0)) = some (r1, r2) := by rw [if_pos rfl] at H; exact H
        clear H
        have H := H1
        clear H1
        simp only [Option.some.injEq, Prod.mk.injEq] at H
        obtain ⟨rfl, rfl⟩ := H
        go_wp2
        go_ret2
        exact ⟨by first | rfl | (simp [errW_none, errW_some] <;> rfl) | (simp [*, errW_none, errW_some] <;> rfl), by repeat (first | (with_reducible first | exact HB.out | apply below_alloc | apply pw_below_drewN | apply below_drew1) | exact HB.out)⟩
      · replace c6 := Bool.eq_false_iff.mpr c6
        subst c6
        have H1 : (if 1 < (a0.size : Int) then ((chars_plain.f (bt a0 1)).bind fun bt113 => (if bt113.2 = true then (some (bt113.1, 2)) else ((chars_digits.f (bt a0 1)).bind fun t115 => (if t115 = 0 then (chars_Escape.j1 kj1 a0 t115 true) else (chars_Escape.j1 kj1 a0 t115 (decide ((a0.size : Int) < (wrap64 (2 + t115))))))))) else (none)) = some (r1, r2) := by rw [if_neg (show ¬ (false = true) by decide)] at H; exact H
        clear H
        have H := H1
        clear H1
        by_cases c7 : 1 < (a0.size : Int)
        · rw [if_pos c7] at H
          have c7b0 : decide (1 < (a0.size : Int)) = true := decide_eq_true c7
          have c7b1 : decide (1 < a0.size) = true := decide_eq_true (by omega)
          clear c7
          replace H := Option.bind_eq_some_iff.mp H
          obtain ⟨⟨t113, t114⟩, A90, H⟩ := H
          replace H : (if t114 = true then (some (t113, 2)) else ((chars_digits.f (bt a0 1)).bind fun t115 => (if t115 = 0 then (chars_Escape.j1 kj1 a0 t115 true) else (chars_Escape.j1 kj1 a0 t115 (decide ((a0.size : Int) < (wrap64 (2 + t115)))))))) = some (r1, r2) := H
          have A9 := Aside0.mk A90
          clear A90
          by_cases c10 : t114 = true
          · subst c10
            have H1 : (some (t113, 2)) = some (r1, r2) := by rw [if_pos rfl] at H; exact H
            clear H
            have H := H1
            clear H1
            simp only [Option.some.injEq, Prod.mk.injEq] at H
            obtain ⟨rfl, rfl⟩ := H
            have p8 : 0 ≤ (1 : Int) := (by omega)
            have q8 : 1 < a0.size := (by have : (1 : Int) < (a0.size : Int) := of_decide_eq_true (by first | (with_reducible assumption) | assumption); omega)
            have hx8 : ∀ h : 1 < a0.size, ((a0[1]'h).toNat : Int) = bt a0 1 := bt_at a0 1
            clear p8
            have qi8 : (1 < (a0.size : Int)) = True := eq_true (of_decide_eq_true (by first | (with_reducible assumption) | assumption))
            replace q8 := eq_true q8
            go_wp2_with (first | ((with_reducible refine gate_callee (f := 74) rfl ?_); refine goesL_ (some 19) rfl rfl Try.func74 (by kernel_rfl) rfl #[.int .u8 (bt a0 1)] rfl (by (try simp only [List.map_toArray, List.map_cons, List.map_nil]); first | done | rfl | (simp only [List.length_drop, List.length_take]; rfl) | (simp only [ByteArray.size_extract, Nat.min_self]; done) | (simp only [ByteArray.size_extract, Nat.min_self]; rfl)) ?_; (with_reducible refine (chars_plain.calls (bt a0 1) t113 true _ A9.out).mono ?_); rintro e w' ⟨rfl, ⟨nd, rfl⟩⟩; refine ⟨_, rfl, ?_⟩))
            go_ret2
            exact ⟨by first | rfl | (simp [errW_none, errW_some] <;> rfl) | (simp [*, errW_none, errW_some] <;> rfl), by repeat (first | (with_reducible first | exact HB.out | apply below_alloc | apply pw_below_drewN | apply below_drew1) | exact HB.out)⟩
          · replace c10 := Bool.eq_false_iff.mpr c10
            subst c10
            have H1 : ((chars_digits.f (bt a0 1)).bind fun t115 => (if t115 = 0 then (chars_Escape.j1 kj1 a0 t115 true) else (chars_Escape.j1 kj1 a0 t115 (decide ((a0.size : Int) < (wrap64 (2 + t115))))))) = some (r1, r2) := by rw [if_neg (show ¬ (false = true) by decide)] at H; exact H
            clear H
            have H := H1
            clear H1
            replace H := Option.bind_eq_some_iff.mp H
            obtain ⟨t115, A120, H⟩ := H
            replace H : (if t115 = 0 then (chars_Escape.j1 kj1 a0 t115 true) else (chars_Escape.j1 kj1 a0 t115 (decide ((a0.size : Int) < (wrap64 (2 + t115)))))) = some (r1, r2) := H
            have A12 := Aside0.mk A120
            clear A120
            have HC13 := Aside0.mk H
            clear H
            have p8 : 0 ≤ (1 : Int) := (by omega)
            have q8 : 1 < a0.size := (by have : (1 : Int) < (a0.size : Int) := of_decide_eq_true (by first | (with_reducible assumption) | assumption); omega)
            have hx8 : ∀ h : 1 < a0.size, ((a0[1]'h).toNat : Int) = bt a0 1 := bt_at a0 1
            clear p8
            have qi8 : (1 < (a0.size : Int)) = True := eq_true (of_decide_eq_true (by first | (with_reducible assumption) | assumption))
            replace q8 := eq_true q8
            go_upto_region 7 with (first | ((with_reducible refine gate_callee (f := 74) rfl ?_); refine goesL_ (some 19) rfl rfl Try.func74 (by kernel_rfl) rfl #[.int .u8 (bt a0 1)] rfl (by (try simp only [List.map_toArray, List.map_cons, List.map_nil]); first | done | rfl | (simp only [List.length_drop, List.length_take]; rfl) | (simp only [ByteArray.size_extract, Nat.min_self]; done) | (simp only [ByteArray.size_extract, Nat.min_self]; rfl)) ?_; (with_reducible refine (chars_plain.calls (bt a0 1) t113 false _ A9.out).mono ?_); rintro e w' ⟨rfl, ⟨nd, rfl⟩⟩; refine ⟨_, rfl, ?_⟩; have p11 : 0 ≤ (1 : Int) := (by omega); have q11 : 1 < a0.size := (by have : (1 : Int) < (a0.size : Int) := of_decide_eq_true (by first | (with_reducible assumption) | assumption); omega); have hx11 : ∀ h : 1 < a0.size, ((a0[1]'h).toNat : Int) = bt a0 1 := bt_at a0 1; clear p11; have qi11 : (1 < (a0.size : Int)) = True := eq_true (of_decide_eq_true (by first | (with_reducible assumption) | assumption)); replace q11 := eq_true q11) | ((with_reducible refine gate_callee (f := 75) rfl ?_); refine goesL_ (some 26) rfl rfl Try.func75 (by kernel_rfl) rfl #[.int .u8 (bt a0 1)] rfl (by (try simp only [List.map_toArray, List.map_cons, List.map_nil]); first | done | rfl | (simp only [List.length_drop, List.length_take]; rfl) | (simp only [ByteArray.size_extract, Nat.min_self]; done) | (simp only [ByteArray.size_extract, Nat.min_self]; rfl)) ?_; (with_reducible refine (chars_digits.calls (bt a0 1) t115 _ A12.out).mono ?_); rintro e w' ⟨rfl, ⟨nd, rfl⟩⟩; refine ⟨_, rfl, ?_⟩))
            (try simp only [Act.put, List.setIfInBounds_toArray, List.set_cons_zero, List.set_cons_succ])
            go_cut [35] (fun v35 wc => ∃ (kq : Nat) (x35_12 : Bool), v35 = .bool x35_12 ∧ Aside0 (chars_Escape.j1 kq a0 t115 x35_12 = some (r1, r2)) ∧ Aside0 (kq ≤ kj1) ∧ Aside0 (Below w.heap.size w wc))
            case first =>
              have H := HC13.out
              clear HC13
              by_cases c14 : t115 = 0
              · rw [if_pos c14] at H
                have c14b0 : (t115 == 0) = true := beq_iff_eq.mpr c14
                have c14b1 : (t115 != 0) = false := bne_eq_false_iff_eq.mpr c14
                clear c14
                (first | rw [c14b0] | (simp only [i64_w, i32_w]; rw [c14b0]) | skip)
                have H' := Aside0.mk H
                clear H
                go_wp2
                go_meet
                case rel => exact ⟨_, (true), (by first | rfl | (simp; done) | (simp [*]; done)), H', ⟨by have := HJ1.out; first | omega | exact Nat.le_refl _⟩, ⟨by repeat (first | (with_reducible first | exact HB.out | apply below_alloc | apply pw_below_drewN | apply below_drew1) | exact HB.out)⟩⟩
              · rw [if_neg c14] at H
                have c14b0 : (t115 == 0) = false := beq_eq_false_iff_ne.mpr c14
                have c14b1 : (t115 != 0) = true := bne_iff_ne.mpr c14
                (first | rw [c14b0] | (simp only [i64_w, i32_w]; rw [c14b0]) | skip)
                have H' := Aside0.mk H
                clear H
                go_wp2
                go_meet
                case rel => exact ⟨_, (decide ((a0.size : Int) < (wrap64 (2 + t115)))), (by first | rfl | (simp; done) | (simp [*]; done)), H', ⟨by have := HJ1.out; first | omega | exact Nat.le_refl _⟩, ⟨by repeat (first | (with_reducible first | exact HB.out | apply below_alloc | apply pw_below_drewN | apply below_drew1) | exact HB.out)⟩⟩
            case rest =>
              clear HC13
              try clear c1
              try clear p1
              try clear q1
              try clear hx1
              try clear qi1
              try clear p2
              try clear c3
              try clear c3b0
              try clear c3b1
              try clear c4
              try clear c4b0
              try clear c4b1
              try clear p5
              try clear q5
              try clear hx5
              try clear qi5
              try clear c6
              try clear p6
              try clear c7
              try clear c7b0
              try clear c7b1
              try clear p8
              try clear q8
              try clear hx8
              try clear qi8
              try clear c10
              try clear p11
              try clear q11
              try clear hx11
              try clear qi11
              try clear c14
              try clear c14b0
              try clear c14b1
              try clear p11
              try clear p2
              try clear p5
              try clear p8
              try clear q11
              try clear q5
              try clear q8
              obtain ⟨kq, x35_12, rfl, HA, HJ12, HB⟩ := hcut
              cases kq with
              | zero => exact absurd HA.out (by simp [chars_Escape.j1])
              | succ kj12 =>
                have H := HA.out
                clear HA
                simp only [chars_Escape.j1] at H
                by_cases c15 : x35_12 = true
                · subst c15
                  have H1 : (some ((⟨#[]⟩ : ByteArray), 0)) = some (r1, r2) := by rw [if_pos rfl] at H; exact H
                  clear H
                  have H := H1
                  clear H1
                  simp only [Option.some.injEq, Prod.mk.injEq] at H
                  obtain ⟨rfl, rfl⟩ := H
                  go_wp2
                  go_ret2
                  exact ⟨by first | rfl | (simp [errW_none, errW_some] <;> rfl) | (simp [*, errW_none, errW_some] <;> rfl), by repeat (first | (with_reducible first | exact HB.out | apply below_alloc | apply pw_below_drewN | apply below_drew1) | exact HB.out)⟩
                · replace c15 := Bool.eq_false_iff.mpr c15
                  subst c15
                  have H1 : (if 2 ≤ (wrap64 (2 + t115)) then (if (wrap64 (2 + t115)) ≤ (a0.size : Int) then ((chars_number.f kj12 (a0.extract 2 ((wrap64 (2 + t115)) : Int).toNat)).bind fun t116 => (if t116 < 0 then (some ((⟨#[]⟩ : ByteArray), 0)) else (if t116 > 1114111 then (some ((⟨#[]⟩ : ByteArray), 0)) else ((utf8_ValidRune.f kj12 (wrap32 (t116))).bind fun t117 => (if t117 = true then (some (Utf8.encode (wrap32 (t116)), wrap64 (2 + t115))) else (some ((⟨#[]⟩ : ByteArray), 0))))))) else (none)) else (none)) = some (r1, r2) := by rw [if_neg (show ¬ (false = true) by decide)] at H; exact H
                  clear H
                  have H := H1
                  clear H1
                  by_cases c16 : 2 ≤ (wrap64 (2 + t115))
                  · rw [if_pos c16] at H
                    have c16b0 := eq_true c16
                    have c16b1 : decide (2 ≤ (wrap64 (2 + t115))) = true := decide_eq_true c16
                    by_cases c17 : (wrap64 (2 + t115)) ≤ (a0.size : Int)
                    · rw [if_pos c17] at H
                      have c17b0 := eq_true c17
                      have c17b1 : decide ((wrap64 (2 + t115)) ≤ (a0.size : Int)) = true := decide_eq_true c17
                      replace H := Option.bind_eq_some_iff.mp H
                      obtain ⟨t116, A180, H⟩ := H
                      replace H : (if t116 < 0 then (some ((⟨#[]⟩ : ByteArray), 0)) else (if t116 > 1114111 then (some ((⟨#[]⟩ : ByteArray), 0)) else ((utf8_ValidRune.f kj12 (wrap32 (t116))).bind fun t117 => (if t117 = true then (some (Utf8.encode (wrap32 (t116)), wrap64 (2 + t115))) else (some ((⟨#[]⟩ : ByteArray), 0)))))) = some (r1, r2) := H
                      have A18 := Aside0.mk A180
                      clear A180
                      by_cases c19 : t116 < 0
                      · rw [if_pos c19] at H
                        have c19b0 : decide (t116 < 0) = true := decide_eq_true c19
                        clear c19
                        simp only [Option.some.injEq, Prod.mk.injEq] at H
                        obtain ⟨rfl, rfl⟩ := H
                        go_wp2_with (first | ((with_reducible refine gate_callee (f := 76) rfl ?_); refine goesL_ (some 40) rfl rfl Try.func76 (by kernel_rfl) rfl #[.string (a0.extract 2 ((wrap64 (2 + t115)) : Int).toNat)] rfl (by (try simp only [List.map_toArray, List.map_cons, List.map_nil]); first | done | rfl | (simp only [List.length_drop, List.length_take]; rfl) | (simp only [ByteArray.size_extract, Nat.min_self]; done) | (simp only [ByteArray.size_extract, Nat.min_self]; rfl)) ?_; (with_reducible refine (chars_number.calls kj12 (a0.extract 2 ((wrap64 (2 + t115)) : Int).toNat) t116 _ A18.out).mono ?_); rintro e w20 ⟨rfl, hb⟩; refine ⟨_, rfl, ?_⟩; have n0_ := Aside0.mk (below_step (by repeat (first | (with_reducible first | exact HB.out | apply below_alloc | apply pw_below_drewN | apply below_drew1) | exact HB.out)) hb); clear HB; have HB := n0_; clear n0_; (try clear hb); (try clear hb2); (try clear hk); (try clear hi)))
                        go_ret2
                        exact ⟨by first | rfl | (simp [errW_none, errW_some] <;> rfl) | (simp [*, errW_none, errW_some] <;> rfl), by repeat (first | (with_reducible first | exact HB.out | apply below_alloc | apply pw_below_drewN | apply below_drew1) | exact HB.out)⟩
                      · rw [if_neg c19] at H
                        have c19b0 : decide (t116 < 0) = false := decide_eq_false c19
                        clear c19
                        by_cases c21 : t116 > 1114111
                        · rw [if_pos c21] at H
                          have c21b0 : decide (1114111 < t116) = true := decide_eq_true c21
                          clear c21
                          simp only [Option.some.injEq, Prod.mk.injEq] at H
                          obtain ⟨rfl, rfl⟩ := H
                          go_wp2_with (first | ((with_reducible refine gate_callee (f := 76) rfl ?_); refine goesL_ (some 40) rfl rfl Try.func76 (by kernel_rfl) rfl #[.string (a0.extract 2 ((wrap64 (2 + t115)) : Int).toNat)] rfl (by (try simp only [List.map_toArray, List.map_cons, List.map_nil]); first | done | rfl | (simp only [List.length_drop, List.length_take]; rfl) | (simp only [ByteArray.size_extract, Nat.min_self]; done) | (simp only [ByteArray.size_extract, Nat.min_self]; rfl)) ?_; (with_reducible refine (chars_number.calls kj12 (a0.extract 2 ((wrap64 (2 + t115)) : Int).toNat) t116 _ A18.out).mono ?_); rintro e w22 ⟨rfl, hb⟩; refine ⟨_, rfl, ?_⟩; have n0_ := Aside0.mk (below_step (by repeat (first | (with_reducible first | exact HB.out | apply below_alloc | apply pw_below_drewN | apply below_drew1) | exact HB.out)) hb); clear HB; have HB := n0_; clear n0_; (try clear hb); (try clear hb2); (try clear hk); (try clear hi)))
                          go_ret2
                          exact ⟨by first | rfl | (simp [errW_none, errW_some] <;> rfl) | (simp [*, errW_none, errW_some] <;> rfl), by repeat (first | (with_reducible first | exact HB.out | apply below_alloc | apply pw_below_drewN | apply below_drew1) | exact HB.out)⟩
                        · rw [if_neg c21] at H
                          have c21b0 : decide (1114111 < t116) = false := decide_eq_false c21
                          clear c21
                          replace H := Option.bind_eq_some_iff.mp H
                          obtain ⟨t117, A230, H⟩ := H
                          replace H : (if t117 = true then (some (Utf8.encode (wrap32 (t116)), wrap64 (2 + t115))) else (some ((⟨#[]⟩ : ByteArray), 0))) = some (r1, r2) := H
                          have A23 := Aside0.mk A230
                          clear A230
                          by_cases c24 : t117 = true
                          · subst c24
                            have H1 : (some (Utf8.encode (wrap32 (t116)), wrap64 (2 + t115))) = some (r1, r2) := by rw [if_pos rfl] at H; exact H
                            clear H
                            have H := H1
                            clear H1
                            simp only [Option.some.injEq, Prod.mk.injEq] at H
                            obtain ⟨rfl, rfl⟩ := H
                            go_wp2_with (first | ((with_reducible refine gate_callee (f := 76) rfl ?_); refine goesL_ (some 40) rfl rfl Try.func76 (by kernel_rfl) rfl #[.string (a0.extract 2 ((wrap64 (2 + t115)) : Int).toNat)] rfl (by (try simp only [List.map_toArray, List.map_cons, List.map_nil]); first | done | rfl | (simp only [List.length_drop, List.length_take]; rfl) | (simp only [ByteArray.size_extract, Nat.min_self]; done) | (simp only [ByteArray.size_extract, Nat.min_self]; rfl)) ?_; (with_reducible refine (chars_number.calls kj12 (a0.extract 2 ((wrap64 (2 + t115)) : Int).toNat) t116 _ A18.out).mono ?_); rintro e w25 ⟨rfl, hb⟩; refine ⟨_, rfl, ?_⟩; have n0_ := Aside0.mk (below_step (by repeat (first | (with_reducible first | exact HB.out | apply below_alloc | apply pw_below_drewN | apply below_drew1) | exact HB.out)) hb); clear HB; have HB := n0_; clear n0_; (try clear hb); (try clear hb2); (try clear hk); (try clear hi)) | (go_at_call 77; (with_reducible refine (utf8_ValidRune.calls kj12 (wrap32 (t116)) true _ A23.out).mono ?_); rintro e w' ⟨rfl, ⟨nd, rfl⟩⟩))
                            go_ret2
                            exact ⟨by first | rfl | (simp [errW_none, errW_some] <;> rfl) | (simp [*, errW_none, errW_some] <;> rfl), by repeat (first | (with_reducible first | exact HB.out | apply below_alloc | apply pw_below_drewN | apply below_drew1) | exact HB.out)⟩
                          · replace c24 := Bool.eq_false_iff.mpr c24
                            subst c24
                            have H1 : (some ((⟨#[]⟩ : ByteArray), 0)) = some (r1, r2) := by rw [if_neg (show ¬ (false = true) by decide)] at H; exact H
                            clear H
                            have H := H1
                            clear H1
                            simp only [Option.some.injEq, Prod.mk.injEq] at H
                            obtain ⟨rfl, rfl⟩ := H
                            go_wp2_with (first | ((with_reducible refine gate_callee (f := 76) rfl ?_); refine goesL_ (some 40) rfl rfl Try.func76 (by kernel_rfl) rfl #[.string (a0.extract 2 ((wrap64 (2 + t115)) : Int).toNat)] rfl (by (try simp only [List.map_toArray, List.map_cons, List.map_nil]); first | done | rfl | (simp only [List.length_drop, List.length_take]; rfl) | (simp only [ByteArray.size_extract, Nat.min_self]; done) | (simp only [ByteArray.size_extract, Nat.min_self]; rfl)) ?_; (with_reducible refine (chars_number.calls kj12 (a0.extract 2 ((wrap64 (2 + t115)) : Int).toNat) t116 _ A18.out).mono ?_); rintro e w26 ⟨rfl, hb⟩; refine ⟨_, rfl, ?_⟩; have n0_ := Aside0.mk (below_step (by repeat (first | (with_reducible first | exact HB.out | apply below_alloc | apply pw_below_drewN | apply below_drew1) | exact HB.out)) hb); clear HB; have HB := n0_; clear n0_; (try clear hb); (try clear hb2); (try clear hk); (try clear hi)) | (go_at_call 77; (with_reducible refine (utf8_ValidRune.calls kj12 (wrap32 (t116)) false _ A23.out).mono ?_); rintro e w' ⟨rfl, ⟨nd, rfl⟩⟩))
                            go_ret2
                            exact ⟨by first | rfl | (simp [errW_none, errW_some] <;> rfl) | (simp [*, errW_none, errW_some] <;> rfl), by repeat (first | (with_reducible first | exact HB.out | apply below_alloc | apply pw_below_drewN | apply below_drew1) | exact HB.out)⟩
                    · rw [if_neg c17] at H
                      exact absurd H (by simp)
                  · rw [if_neg c16] at H
                    exact absurd H (by simp)
        · rw [if_neg c7] at H
          exact absurd H (by simp)

end Go.Proofs.Ytabdoommjdgogaa.Q
