/- Numbers by their digits, signs ahead, how many digits stand ahead: plain, and that the program and the reference both answer it. -/
import Derived.Test.YtpigemgiegbblaaR1
import Derived.Test.YtpigemgiegbblaaQresolve
import Derived.Laws.Bits64
namespace Go.Proofs.Ytpigemgiegbblaa.Pure
open Go.RowKit Go.Proofs.Ytpigemgiegbblaa.Q Go.Proofs.YtpigemgiegbblaaW.PrintWords Go.Proofs.YtpigemgiegbblaaW.PrintLast
set_option linter.unusedVariables false
set_option linter.unusedSimpArgs false
/-- The number of digits, behind the number n; -1: they are none, or it is above a bound. -/
def numr (base top : Int) : List Int → Int → Int
  | [], n => n
  | c :: l, n => if hexd c < 0 ∨ hexd c ≥ base ∨ n * base + hexd c > top then -1 else numr base top l (n * base + hexd c)
def Base (b : Int) : Prop := b = 8 ∨ b = 10 ∨ b = 16
theorem value_eq (k : Nat) (c base : Int) (h0 : 0 ≤ c) (h1 : c ≤ 1114111) (hb : Base base) : resolve_value.f (k + 3) c base = some (if 0 ≤ hexd c ∧ hexd c < base then hexd c else -1) := by
  have hb2 : 8 ≤ base := by unfold Base at hb; omega
  have s0 : resolve_value.f (k + 3) c base = resolve_value.j0 (k + 3) c base (-1) (decide (48 ≤ c ∧ c ≤ 57)) := by
    unfold resolve_value.f
    by_cases h : c ≥ 48
    · rw [if_pos h]; congr 1; exact decide_eq_decide.mpr (by omega)
    · rw [if_neg h, decide_eq_false (by omega)]
  have fin : ∀ x y : Int, x = y → 0 ≤ y → (if x ≥ base then some (-1) else some x) = some (if 0 ≤ y ∧ y < base then y else -1) := by
    intro x y e hy
    subst e
    by_cases h : x ≥ base
    · rw [if_pos h, if_neg (by omega)]
    · rw [if_neg h, if_pos (by omega)]
  rw [s0, resolve_value.j0]
  by_cases a : 48 ≤ c ∧ c ≤ 57
  · have hh : hexd c = c - 48 := by unfold hexd; rw [if_pos a]
    rw [decide_eq_true a, if_pos rfl, hh, w32 (by omega) (by omega), w64 (by omega) (by omega)]
    exact fin _ _ rfl (by omega)
  rw [decide_eq_false a, if_neg Bool.false_ne_true]
  have s1 : (if c ≥ 97 then resolve_value.j1 (k + 2) c base (-1) (decide (c ≤ 102)) else resolve_value.j1 (k + 2) c base (-1) false) = resolve_value.j1 (k + 2) c base (-1) (decide (97 ≤ c ∧ c ≤ 102)) := by
    by_cases h : c ≥ 97
    · rw [if_pos h]; congr 1; exact decide_eq_decide.mpr (by omega)
    · rw [if_neg h, decide_eq_false (by omega)]
  rw [s1, resolve_value.j1]
  by_cases b : 97 ≤ c ∧ c ≤ 102
  · have hh : hexd c = c - 87 := by unfold hexd; rw [if_neg a, if_pos b]
    rw [decide_eq_true b, if_pos rfl, hh, w32 (by omega) (by omega), w64 (x := c - 97) (by omega) (by omega), w64 (by omega) (by omega)]
    exact fin _ _ (by omega) (by omega)
  rw [decide_eq_false b, if_neg Bool.false_ne_true]
  have s2 : (if c ≥ 65 then resolve_value.j2 (k + 1) c base (-1) (decide (c ≤ 70)) else resolve_value.j2 (k + 1) c base (-1) false) = resolve_value.j2 (k + 1) c base (-1) (decide (65 ≤ c ∧ c ≤ 70)) := by
    by_cases h : c ≥ 65
    · rw [if_pos h]; congr 1; exact decide_eq_decide.mpr (by omega)
    · rw [if_neg h, decide_eq_false (by omega)]
  rw [s2, resolve_value.j2]
  by_cases d : 65 ≤ c ∧ c ≤ 70
  · have hh : hexd c = c - 55 := by unfold hexd; rw [if_neg a, if_neg b, if_pos d]
    rw [decide_eq_true d, if_pos rfl, hh, w32 (by omega) (by omega), w64 (x := c - 65) (by omega) (by omega), w64 (by omega) (by omega)]
    exact fin _ _ (by omega) (by omega)
  · have hh : hexd c = -1 := by unfold hexd; rw [if_neg a, if_neg b, if_neg d]
    rw [decide_eq_false d, if_neg Bool.false_ne_true, if_neg (by omega), hh, if_neg (by omega)]
theorem bound_iff (base n d top : Int) (hb : Base base) (h0 : 0 ≤ n) (h1 : n ≤ 9223372036854775808) (d0 : 0 ≤ d) (d1 : d ≤ 15) (ht : top = 9223372036854775808 ∨ top = 9223372036854775807) :
    (n > IntKind.u64.wrap (Int.tdiv (IntKind.u64.wrap (top - IntKind.u64.wrap d)) (IntKind.u64.wrap base))) ↔ n * base + d > top := by
  have e1 : IntKind.u64.wrap d = d := by rw [IntKind.wrap_u64]; omega
  have e2 : IntKind.u64.wrap (top - d) = top - d := by rw [IntKind.wrap_u64]; omega
  have e3 : IntKind.u64.wrap base = base := by unfold Base at hb; rw [IntKind.wrap_u64]; omega
  rw [e1, e2, e3, Int.tdiv_eq_ediv_of_nonneg (by omega), IntKind.wrap_u64]
  rcases hb with rfl | rfl | rfl <;> rcases ht with rfl | rfl <;> omega
theorem next_num (base n d : Int) (hb : Base base) (h0 : 0 ≤ n) (d0 : 0 ≤ d) (d1 : d ≤ 15) (h : n * base + d ≤ 9223372036854775808) :
    IntKind.u64.wrap ((IntKind.u64.wrap (n * (IntKind.u64.wrap base))) + (IntKind.u64.wrap d)) = n * base + d := by
  have e1 : IntKind.u64.wrap d = d := by rw [IntKind.wrap_u64]; omega
  have e3 : IntKind.u64.wrap base = base := by unfold Base at hb; rw [IntKind.wrap_u64]; omega
  rw [e1, e3]
  rcases hb with rfl | rfl | rfl <;> (rw [IntKind.wrap_u64, IntKind.wrap_u64]; omega)
theorem decode_small (s : ByteArray) (p : Nat) : (Utf8.decode s p).1 ≤ 1114111 ∧ 1 ≤ (Utf8.decode s p).2 := by
  unfold Utf8.decode
  have b0 := (s.get! (p + 0)).toNat_lt
  simp only
  split
  · exact ⟨by dsimp only; omega, by dsimp only; omega⟩
  split
  · split
    · exact ⟨by dsimp only; omega, by dsimp only; omega⟩
    · exact ⟨by decide, by decide⟩
  split
  · split
    · exact ⟨by dsimp only; omega, by dsimp only; omega⟩
    · exact ⟨by decide, by decide⟩
  split
  · split
    · rename_i h
      refine ⟨?_, by dsimp only; omega⟩
      simp only [Bool.and_eq_true, Utf8.valid, Bool.or_eq_true, decide_eq_true_eq] at h
      simp only
      omega
    · exact ⟨by decide, by decide⟩
  · exact ⟨by decide, by decide⟩
theorem number_go (s : ByteArray) (base : Int) (hb : Base base) (d : Nat) : ∀ (k p : Nat) (n : Int), p + d = s.size → d + 5 < k → 0 ≤ n → n ≤ 9223372036854775808 →
    resolve_number.l0 k s base n s (p : Int) = some (if numr base 9223372036854775808 ((bs s).drop p) n < 0 then (0, false) else (numr base 9223372036854775808 ((bs s).drop p) n, !s.toList.isEmpty)) := by
  have hl := bs_len s
  induction d with
  | zero =>
    intro k p n hp hk h0 h1
    obtain ⟨k, rfl⟩ : ∃ m, k = m + 1 := ⟨k - 1, by omega⟩
    rw [resolve_number.l0, if_pos (by omega), if_neg (by omega), List.drop_of_length_le (by omega)]
    unfold numr
    rw [if_neg (by omega)]
  | succ d ih =>
    intro k p n hp hk h0 h1
    obtain ⟨k, rfl⟩ : ∃ m, k = m + 4 := ⟨k - 4, by omega⟩
    have hcons : (bs s).drop p = rd (bs s) (p : Int) :: (bs s).drop (p + 1) := by
      rw [List.drop_eq_getElem_cons (by omega)]
      congr 1
      unfold Go.Proofs.YtpigemgiegbblaaW.PrintWords.rd
      rw [Int.toNat_natCast, List.getD_eq_getElem?_getD, List.getElem?_eq_getElem (by omega)]
      rfl
    rw [hcons]
    unfold numr
    have hr := bt_range s (p : Int)
    have hbase : ¬ IntKind.u64.wrap base = 0 := by unfold Base at hb; rw [IntKind.wrap_u64]; omega
    rw [resolve_number.l0, if_pos (by omega), if_pos (by omega)]
    by_cases c : bt s (p : Int) < 128
    · obtain ⟨e1, e2⟩ := rune_low s p (by omega) c
      have hd := hexd_range (bt s (p : Int))
      rw [e1, e2, value_eq k _ base (by omega) (by omega) hb, ← bt_bs]
      simp only [Option.bind_some]
      generalize hexd (bt s (p : Int)) = x at *
      by_cases v : 0 ≤ x ∧ x < base
      · rw [if_pos v, if_neg (by omega), if_neg hbase]
        by_cases t : n * base + x > 9223372036854775808
        · rw [if_pos ((bound_iff base n x _ hb h0 h1 v.1 (by omega) (.inl rfl)).2 t), if_pos (show x < 0 ∨ x ≥ base ∨ n * base + x > 9223372036854775808 from .inr (.inr t)), if_pos (by decide)]
        · rw [if_neg (fun h => t ((bound_iff base n x _ hb h0 h1 v.1 (by omega) (.inl rfl)).1 h)), next_num base n x hb h0 v.1 (by omega) (by omega), if_neg (show ¬ (x < 0 ∨ x ≥ base ∨ n * base + x > 9223372036854775808) by omega)]
          refine ih (k + 3) (p + 1) _ (by omega) (by omega) ?_ (by omega)
          rcases hb with rfl | rfl | rfl <;> omega
      · rw [if_neg v, if_pos (by decide), if_pos (show x < 0 ∨ x ≥ base ∨ n * base + x > 9223372036854775808 by omega), if_pos (by decide)]
    · have e1 := rune_high s p (by omega) (by omega)
      have e3 : rdRune s (p : Int) ≤ 1114111 := by
        unfold rdRune
        have := (decode_small s (p : Int).toNat).1
        omega
      rw [value_eq k _ base (by omega) e3 hb, ← bt_bs]
      simp only [Option.bind_some]
      have x1 : hexd (bt s (p : Int)) = -1 := by unfold hexd; rw [if_neg (by omega), if_neg (by omega), if_neg (by omega)]
      have x2 : hexd (rdRune s (p : Int)) = -1 := by unfold hexd; rw [if_neg (by omega), if_neg (by omega), if_neg (by omega)]
      rw [x1, x2, if_neg (show ¬ (0 ≤ (-1 : Int) ∧ (-1 : Int) < base) by omega), if_pos (show (-1 : Int) < 0 by decide), if_pos (show (-1 : Int) < 0 ∨ (-1 : Int) ≥ base ∨ n * base + -1 > 9223372036854775808 from .inl (by decide)), if_pos (by decide)]
theorem number_eq (s : ByteArray) (base : Int) (hb : Base base) (k : Nat) (hk : s.size + 5 < k) :
    resolve_number.f k s base = some (if numr base 9223372036854775808 (bs s) 0 < 0 then (0, false) else (numr base 9223372036854775808 (bs s) 0, !s.toList.isEmpty)) := by
  unfold resolve_number.f
  exact number_go s base hb s.size k 0 0 (by omega) hk (by omega) (by omega)
/-- A bound that is one less. -/
theorem numr_less (base T : Int) (hb : Base base) (hT : 0 < T) (l : List Int) : ∀ n, 0 ≤ n → n < T → numr base (T - 1) l n = if numr base T l n = T then -1 else numr base T l n := by
  induction l with
  | nil => intro n h0 h1; unfold numr; rw [if_neg (by omega)]
  | cons c l ih =>
    intro n h0 h1
    unfold numr
    have hd := hexd_range c
    generalize hexd c = x at *
    by_cases a : x < 0 ∨ x ≥ base
    · rw [if_pos (show x < 0 ∨ x ≥ base ∨ n * base + x > T - 1 by omega), if_pos (show x < 0 ∨ x ≥ base ∨ n * base + x > T by omega), if_neg (show ¬ (-1 : Int) = T by omega)]
    have hv : 0 ≤ n * base + x := by rcases hb with rfl | rfl | rfl <;> omega
    generalize n * base + x = v at *
    by_cases b : v > T
    · rw [if_pos (show x < 0 ∨ x ≥ base ∨ v > T - 1 by omega), if_pos (show x < 0 ∨ x ≥ base ∨ v > T by omega), if_neg (show ¬ (-1 : Int) = T by omega)]
    by_cases e : v = T
    · subst e
      rw [if_pos (show x < 0 ∨ x ≥ base ∨ v > v - 1 by omega), if_neg (show ¬ (x < 0 ∨ x ≥ base ∨ v > v) by omega)]
      cases l with
      | nil => unfold numr; rw [if_pos rfl]
      | cons c2 l2 =>
        unfold numr
        have hd2 := hexd_range c2
        have : hexd c2 < 0 ∨ hexd c2 ≥ base ∨ v * base + hexd c2 > v := by rcases hb with rfl | rfl | rfl <;> omega
        rw [if_pos this, if_neg (show ¬ (-1 : Int) = v by omega)]
    · rw [if_neg (show ¬ (x < 0 ∨ x ≥ base ∨ v > T - 1) by omega), if_neg (show ¬ (x < 0 ∨ x ≥ base ∨ v > T) by omega)]
      exact ih v hv (by omega)
end Go.Proofs.Ytpigemgiegbblaa.Pure
