/- Signs ahead, digits ahead, floats, kinds: plain, and that the program and the reference both answer them. -/
import Derived.Test.YtpigemgiegbblaaR2
namespace Go.Proofs.Ytpigemgiegbblaa.Pure
open Go.RowKit Go.Proofs.Ytpigemgiegbblaa.Q Go.Proofs.YtpigemgiegbblaaW.PrintWords Go.Proofs.YtpigemgiegbblaaW.PrintLast
set_option linter.unusedVariables false
set_option linter.unusedSimpArgs false
/-- A sign taken away: whether it was one of numbers below nought. -/
def sgn : List Int → List Int × Bool
  | [] => ([], false)
  | c :: l => if c = 45 then (l, true) else if c = 43 then (l, false) else (c :: l, false)
/-- How many digits stand ahead. -/
def dgs : List Int → Nat
  | [] => 0
  | c :: l => if 48 ≤ c ∧ c ≤ 57 then dgs l + 1 else 0
theorem dgs_le (l : List Int) : dgs l ≤ l.length := by
  induction l with
  | nil => simp [dgs]
  | cons c l ih => unfold dgs; split <;> simp; omega
theorem prefix_eq (s p : ByteArray) : strings_HasPrefix.f s p = some (decide ((bs s).take p.size = bs p)) := by
  have hl := bs_len s
  have hp := bs_len p
  unfold strings_HasPrefix.f stringslite_HasPrefix.f
  by_cases c : (s.size : Int) ≥ (p.size : Int)
  · rw [if_pos c, if_pos (by omega), if_pos (by omega), Int.toNat_natCast]
    simp only [Option.bind_some]
    congr 1
    have e : bs (s.extract 0 p.size) = (bs s).take p.size := by
      unfold bs
      rw [ByteArray.data_extract, Array.toList_extract, ← List.map_take]
      congr 1
    rw [Bool.eq_iff_iff, beq_iff_eq, decide_eq_true_iff, ← e]
    constructor
    · intro h
      rw [bs_list, ByteArray.toList_eq] at h
      exact h
    · intro h
      rw [bs_inj h]
  · rw [if_neg c]
    simp only [Option.bind_some]
    rw [decide_eq_false]
    intro h
    have := congrArg List.length h
    rw [List.length_take, hp] at this
    omega

theorem bs_nil (s : ByteArray) (h : s.size = 0) : bs s = [] := List.eq_nil_of_length_eq_zero (by rw [bs_len]; exact h)
theorem bs_cons (s : ByteArray) (h : 0 < s.size) : bs s = bt s 0 :: bs (s.extract 1 s.size) := by
  have hl := bs_len s
  rw [bs_drop, bt_bs]
  generalize bs s = l at *
  cases l with
  | nil => simp only [List.length_nil] at hl; omega
  | cons x l => rfl
theorem emp (s : ByteArray) : s.toList.isEmpty = decide (bs s = []) := by
  rw [Bool.eq_iff_iff, List.isEmpty_iff, decide_eq_true_iff, bs_list]
  rfl
theorem bind_id {α : Type} (o : Option α) : (o.bind fun t => some t) = o := by cases o <;> rfl
theorem take1 (l : List Int) (c : Int) : l.take 1 = [c] ↔ l.head? = some c := by
  cases l with
  | nil => simp
  | cons x l => simp
theorem ext_size (s : ByteArray) (a : Nat) : (s.extract a s.size).size = s.size - a := by simp
theorem cut1 (s : ByteArray) (c : UInt8) : strings_CutPrefix.f s ⟨#[c]⟩ = some (if (bs s).head? = some (c.toNat : Int) then (s.extract 1 s.size, true) else (s, false)) := by
  have h := prefix_eq s ⟨#[c]⟩
  unfold strings_HasPrefix.f at h
  rw [bind_id] at h
  unfold strings_CutPrefix.f stringslite_CutPrefix.f
  rw [h]
  simp only [Option.bind_some]
  have e : ((bs s).take (⟨#[c]⟩ : ByteArray).size = bs ⟨#[c]⟩) ↔ (bs s).head? = some (c.toNat : Int) := take1 (bs s) _
  by_cases d : (bs s).head? = some (c.toNat : Int)
  · have hs : 0 < s.size := by
      rw [← bs_len]
      cases hb : bs s with
      | nil => rw [hb] at d; cases d
      | cons x l => simp
    have z : (((⟨#[c]⟩ : ByteArray).size : Nat) : Int) = 1 := rfl
    rw [if_pos d, decide_eq_true (e.2 d), if_pos rfl, z, if_pos (by decide), if_pos (by omega)]
    rfl
  · rw [if_neg d, decide_eq_false (fun h => d (e.1 h)), if_neg Bool.false_ne_true]
    rfl
theorem trim1 (s : ByteArray) (c : UInt8) : strings_TrimPrefix.f s ⟨#[c]⟩ = some (if (bs s).head? = some (c.toNat : Int) then s.extract 1 s.size else s) := by
  have h := prefix_eq s ⟨#[c]⟩
  unfold strings_HasPrefix.f at h
  rw [bind_id] at h
  unfold strings_TrimPrefix.f stringslite_TrimPrefix.f
  rw [h]
  simp only [Option.bind_some]
  have e : ((bs s).take (⟨#[c]⟩ : ByteArray).size = bs ⟨#[c]⟩) ↔ (bs s).head? = some (c.toNat : Int) := take1 (bs s) _
  by_cases d : (bs s).head? = some (c.toNat : Int)
  · have hs : 0 < s.size := by
      rw [← bs_len]
      cases hb : bs s with
      | nil => rw [hb] at d; cases d
      | cons x l => simp
    have z : (((⟨#[c]⟩ : ByteArray).size : Nat) : Int) = 1 := rfl
    rw [if_pos d, decide_eq_true (e.2 d), if_pos rfl, z, if_pos (by decide), if_pos (by omega)]
    rfl
  · rw [if_neg d, decide_eq_false (fun h => d (e.1 h)), if_neg Bool.false_ne_true]
    rfl
theorem sgn_cons (c : Int) (l : List Int) : sgn (c :: l) = if c = 45 then (l, true) else if c = 43 then (l, false) else (c :: l, false) := rfl
/-- A text's sign taken away. -/
def sg (s : ByteArray) : ByteArray × Bool := if (bs s).head? = some 45 then (s.extract 1 s.size, true) else if (bs s).head? = some 43 then (s.extract 1 s.size, false) else (s, false)
theorem sign_eq (s : ByteArray) : resolve_sign.f s = some (sg s) := by
  unfold resolve_sign.f sg
  rw [cut1, trim1]
  simp only [Option.bind_some]
  have e1 : ((45 : UInt8).toNat : Int) = 45 := rfl
  have e2 : ((43 : UInt8).toNat : Int) = 43 := rfl
  rw [e1, e2]
  by_cases a : (bs s).head? = some 45
  · rw [if_pos a, if_pos a]; rfl
  · rw [if_neg a, if_neg a]
    by_cases b : (bs s).head? = some 43
    · rw [if_pos b, if_pos b]; rfl
    · rw [if_neg b, if_neg b]; rfl
theorem bs_sg (s : ByteArray) : (bs (sg s).1, (sg s).2) = sgn (bs s) := by
  unfold sg
  by_cases h : 0 < s.size
  · rw [bs_cons s h]
    simp only [List.head?_cons, Option.some.injEq]
    rw [sgn_cons]
    by_cases a : bt s 0 = 45
    · rw [if_pos a, if_pos a]
    rw [if_neg a, if_neg a]
    by_cases b : bt s 0 = 43
    · rw [if_pos b, if_pos b]
    rw [if_neg b, if_neg b]
    simp only
    rw [← bs_cons s h]
  · rw [bs_nil s (by omega)]
    simp only [List.head?_nil, reduceCtorEq, if_false]
    rw [bs_nil s (by omega)]
    rfl
theorem sg1 (s : ByteArray) : bs (sg s).1 = (sgn (bs s)).1 := congrArg Prod.fst (bs_sg s)
theorem sg2 (s : ByteArray) : (sg s).2 = (sgn (bs s)).2 := congrArg Prod.snd (bs_sg s)
theorem sg_size (s : ByteArray) : (sg s).1.size ≤ s.size := by
  unfold sg
  split
  · rw [ext_size]; omega
  split
  · rw [ext_size]; omega
  · exact Nat.le_refl _
/-- A number of digits, with its sign. -/
def num (neg : Bool) (base : Int) (l : List Int) : Int × Bool :=
  if numr base 9223372036854775808 l 0 < 0 ∨ l = [] ∨ (numr base 9223372036854775808 l 0 = 9223372036854775808 ∧ neg = false) then (0, false)
  else (if neg = true then -numr base 9223372036854775808 l 0 else numr base 9223372036854775808 l 0, true)
theorem numr_range (base T : Int) (hb : Base base) (l : List Int) : ∀ n, 0 ≤ n → n ≤ T → numr base T l n = -1 ∨ (0 ≤ numr base T l n ∧ numr base T l n ≤ T) := by
  induction l with
  | nil => intro n h0 h1; exact .inr ⟨h0, h1⟩
  | cons c l ih =>
    intro n h0 h1
    unfold numr
    split
    · exact .inl rfl
    · refine ih _ ?_ (by omega)
      rcases hb with rfl | rfl | rfl <;> omega
theorem intj_eq (s : ByteArray) (neg : Bool) (base : Int) (hb : Base base) (k : Nat) (hk : s.size + 10 < k) : resolve_Int.j0 k s neg base = some (num neg base (bs s)) := by
  obtain ⟨k, rfl⟩ : ∃ m, k = m + 2 := ⟨k - 2, by omega⟩
  rw [resolve_Int.j0, number_eq s base hb (k + 1) (by omega), emp]
  have hr := numr_range base 9223372036854775808 hb (bs s) 0 (by omega) (by omega)
  unfold num
  generalize numr base 9223372036854775808 (bs s) 0 = n at *
  simp only [Option.bind_some]
  by_cases a : n < 0
  · rw [if_pos a]
    simp only [Bool.false_eq_true, if_false]
    rw [resolve_Int.j1, if_pos rfl, if_pos (.inl a)]
  rw [if_neg a]
  simp only
  by_cases b : bs s = []
  · rw [decide_eq_true b]
    simp only [Bool.not_true, Bool.false_eq_true, if_false]
    rw [resolve_Int.j1, if_pos rfl, if_pos (.inr (.inl b))]
  rw [decide_eq_false b]
  simp only [Bool.not_false, if_true]
  have hu : IntKind.u64.wrap (-n) = (18446744073709551616 - n) % 18446744073709551616 := by rw [IntKind.wrap_u64]; omega
  by_cases c : n = 9223372036854775808
  · rw [if_pos c, resolve_Int.j1]
    cases neg with
    | false => rw [if_pos (show (!false) = true from rfl), if_pos (.inr (.inr ⟨c, rfl⟩))]
    | true =>
      rw [if_neg (show ¬ (!true) = true by decide), if_pos rfl, if_neg (show ¬ (n < 0 ∨ bs s = [] ∨ n = 9223372036854775808 ∧ true = false) by simp [a, b]), if_pos rfl, hu]
      congr 2
      unfold wrap64
      omega
  · rw [if_neg c, resolve_Int.j1, if_neg (by decide), if_neg (show ¬ (n < 0 ∨ bs s = [] ∨ n = 9223372036854775808 ∧ neg = false) by simp [a, b, c])]
    cases neg with
    | false => rw [if_neg (by decide), if_neg (by decide), w64 (by omega) (by omega)]
    | true =>
      rw [if_pos rfl, if_pos rfl, hu]
      congr 2
      unfold wrap64
      omega
/-- What a whole number's text says. -/
def intS (l : List Int) : Int × Bool :=
  if l.take 2 = [48, 111] then num false 8 (l.drop 2) else if l.take 2 = [48, 120] then num false 16 (l.drop 2) else num (sgn l).2 10 (sgn l).1
theorem int_eq (s : ByteArray) (k : Nat) (hk : s.size + 12 < k) : resolve_Int.f k s = some (intS (bs s)) := by
  have hl := bs_len s
  unfold resolve_Int.f intS
  rw [sign_eq, prefix_eq, prefix_eq]
  have e1 : ((bs s).take (⟨#[48, 111]⟩ : ByteArray).size = bs ⟨#[48, 111]⟩) ↔ (bs s).take 2 = [48, 111] := Iff.rfl
  have e2 : ((bs s).take (⟨#[48, 120]⟩ : ByteArray).size = bs ⟨#[48, 120]⟩) ↔ (bs s).take 2 = [48, 120] := Iff.rfl
  simp only [Option.bind_some]
  have h2 : ∀ c : Int, (bs s).take 2 = [48, c] → 2 ≤ s.size ∧ (sg s).2 = false := by
    intro c h
    refine ⟨?_, ?_⟩
    · have := congrArg List.length h
      rw [List.length_take] at this
      simp only [List.length_cons, List.length_nil] at this
      omega
    · rw [sg2]
      cases hb : bs s with
      | nil => rfl
      | cons x l =>
        rw [hb] at h
        rw [List.take_succ_cons] at h
        injection h with h _
        subst h
        rfl
  by_cases a : (bs s).take 2 = [48, 111]
  · obtain ⟨g1, g2⟩ := h2 _ a
    rw [decide_eq_true (e1.2 a), if_pos rfl, if_pos (by omega), if_pos a, g2, intj_eq _ _ _ (.inl rfl) k (by rw [ext_size]; omega), bs_drop]
  rw [decide_eq_false (fun h => a (e1.1 h)), if_neg (by decide), if_neg a]
  by_cases b : (bs s).take 2 = [48, 120]
  · obtain ⟨g1, g2⟩ := h2 _ b
    rw [decide_eq_true (e2.2 b), if_pos rfl, if_pos (by omega), if_pos b, g2, intj_eq _ _ _ (.inr (.inr rfl)) k (by rw [ext_size]; omega), bs_drop]
  rw [decide_eq_false (fun h => b (e2.1 h)), if_neg (by decide), if_neg b]
  have := sg_size s
  rw [intj_eq _ _ _ (.inr (.inl rfl)) k (by omega), sg1, sg2]

theorem dgs_cons (c : Int) (l : List Int) : dgs (c :: l) = if 48 ≤ c ∧ c ≤ 57 then dgs l + 1 else 0 := rfl
theorem drop_cons (s : ByteArray) (p : Nat) (h : p < s.size) : (bs s).drop p = bt s (p : Int) :: (bs s).drop (p + 1) := by
  have hl := bs_len s
  rw [List.drop_eq_getElem_cons (by omega), bt_bs]
  congr 1
  unfold Go.Proofs.YtpigemgiegbblaaW.PrintWords.rd
  rw [Int.toNat_natCast, List.getD_eq_getElem?_getD, List.getElem?_eq_getElem (by omega)]
  rfl
theorem digits_go (s : ByteArray) (d : Nat) : ∀ (k p : Nat), p + d = s.size → d < k → resolve_digits.l0 k s s (p : Int) = some ((p + dgs ((bs s).drop p) : Nat) : Int) := by
  have hl := bs_len s
  induction d with
  | zero =>
    intro k p hp hk
    obtain ⟨k, rfl⟩ : ∃ m, k = m + 1 := ⟨k - 1, by omega⟩
    rw [resolve_digits.l0, if_pos (by omega), if_neg (by omega), List.drop_of_length_le (by omega)]
    congr 2
    unfold dgs
    omega
  | succ d ih =>
    intro k p hp hk
    obtain ⟨k, rfl⟩ : ∃ m, k = m + 1 := ⟨k - 1, by omega⟩
    rw [drop_cons s p (by omega), dgs_cons, resolve_digits.l0, if_pos (by omega), if_pos (by omega)]
    by_cases c : bt s (p : Int) < 128
    · obtain ⟨e1, e2⟩ := rune_low s p (by omega) c
      rw [e1, e2]
      by_cases a : bt s (p : Int) < 48
      · rw [if_pos a, if_neg (by omega)]; rfl
      rw [if_neg a]
      by_cases b : bt s (p : Int) > 57
      · rw [if_pos b, if_neg (by omega)]; rfl
      rw [if_neg b, if_pos (by omega), ih k (p + 1) (by omega) (by omega)]
      congr 2
      omega
    · have e1 := rune_high s p (by omega) (by omega)
      rw [if_neg (by omega), if_pos (by omega), if_neg (by omega)]; rfl
theorem digits_eq2 (s : ByteArray) (k : Nat) (hk : s.size + 1 < k) : resolve_digits.f k s = some (dgs (bs s) : Int) := by
  unfold resolve_digits.f
  have := digits_go s s.size k 0 (by omega) (by omega)
  rw [List.drop_zero, Nat.zero_add] at this
  exact this
end Go.Proofs.Ytpigemgiegbblaa.Pure
