/- What a double-quoted text says, and what any token's text says: plain laws, and that the program and the reference both answer them. -/
import Derived.Test.YtabdoommjdgogaaD1
namespace Go.Proofs.Ytabdoommjdgogaa.Pure
open Go.RowKit Go.Proofs.Ytabdoommjdgogaa.Q Go.Proofs.YtabdoommjdgogaaW.PrintWords Go.Proofs.YtabdoommjdgogaaW.PrintLast
set_option linter.unusedVariables false
set_option linter.unusedSimpArgs false

/-- What a text between signs " says, from a place on. -/
def dq (s : ByteArray) : Nat → Nat → List Int × List Int × Bool
  | 0, _ => ([], [], false)
  | n + 1, i => if i < s.size then (if bt s (i : Int) = 34 then ([], [], true) else
      if (esc (s.extract i s.size)).2 = 0 then (bt s (i : Int) :: (dq s n (i + 1)).1, (if bt s (i : Int) = 92 then (i : Int) :: (dq s n (i + 1)).2.1 else (dq s n (i + 1)).2.1), (dq s n (i + 1)).2.2)
      else (bs (esc (s.extract i s.size)).1 ++ (dq s n (i + (esc (s.extract i s.size)).2.toNat)).1, (dq s n (i + (esc (s.extract i s.size)).2.toNat)).2.1, (dq s n (i + (esc (s.extract i s.size)).2.toNat)).2.2))
    else ([], [], false)
theorem enc_size (v : Int) : (Utf8.encode v).size ≤ 4 := by
  unfold Utf8.encode
  simp only
  repeat' split
  all_goals (simp only [List.size_toArray, List.length_cons, List.length_nil, ByteArray.size])
  all_goals omega
theorem simp1_size (c : Int) (t : ByteArray) (h : simp1 c = some t) : t.size ≤ 4 := by
  unfold simp1 at h
  have e (c : Int) : (Utf8.encode c).size ≤ 4 := enc_size c
  repeat' split at h
  all_goals first | (obtain rfl := Option.some.inj h; first | exact e _ | decide) | cases h
theorem esc_cases (t : ByteArray) : (esc t).2 = 0 ∨ (2 ≤ (esc t).2 ∧ (esc t).2 ≤ 10 ∧ (esc t).1.size ≤ 4 ∧ bt t 0 = 92) := by
  unfold esc
  by_cases a : t.size < 2 ∨ bt t 0 ≠ 92
  · rw [if_pos a]; exact .inl rfl
  rw [if_neg a]
  have hb : bt t 0 = 92 := Decidable.byContradiction fun h => a (.inr h)
  cases h : simp1 (bt t 1) with
  | some u => exact .inr ⟨show (2 : Int) ≤ 2 by decide, show (2 : Int) ≤ 10 by decide, simp1_size _ _ h, hb⟩
  | none =>
    simp only
    split
    · exact .inl rfl
    split
    · exact .inl rfl
    · have := digs_cases (bt t 1)
      rename_i h1 h2
      exact .inr ⟨by simp only; omega, by simp only; omega, enc_size _, hb⟩
theorem bt_tail (s : ByteArray) (i : Nat) (h : i < s.size) : bt (s.extract i s.size) 0 = bt s (i : Int) := by
  have := bt_extract s i s.size (Nat.le_refl _) 0 (by omega)
  simpa using this
theorem tell_double (s : ByteArray) (hs : s.size ≤ 10000) (n : Nat) : ∀ (k i : Nat) (x : ByteArray) (l : List Int), s.size ≤ i + n → n + 40 < k → i ≤ s.size + 10 → x.size ≤ 4 * i → l.length ≤ i →
    quote_double_tell.l0 k l s (i : Int) x = some (strOfNums (bs x ++ (dq s n i).1), l ++ (dq s n i).2.1, (dq s n i).2.2) := by
  have fin (x : ByteArray) (l : List Int) (b : Bool) : (some (x, l, b) : Option (ByteArray × List Int × Bool)) = some (strOfNums (bs x ++ []), l ++ [], b) := by rw [List.append_nil, nums_bs, List.append_nil]
  induction n with
  | zero =>
    intro k i x l hn hk hi hx hl
    obtain ⟨k, rfl⟩ : ∃ m, k = m + 1 := ⟨k - 1, by omega⟩
    rw [quote_double_tell.l0, if_neg (by omega)]
    exact fin x l false
  | succ n ih =>
    intro k i x l hn hk hi hx hl
    obtain ⟨k, rfl⟩ : ∃ m, k = m + 1 := ⟨k - 1, by omega⟩
    rw [quote_double_tell.l0, dq]
    by_cases h : s.size ≤ i
    · rw [if_neg (by omega), if_neg (by omega)]
      exact fin x l false
    rw [if_pos (by omega), if_pos (by omega), if_pos (show i < s.size by omega)]
    by_cases a : bt s (i : Int) = 34
    · rw [if_pos a, if_pos a]
      exact fin x l true
    rw [if_neg a, if_neg a, if_pos (by omega), Int.toNat_natCast, escape_eq k (by omega), Option.bind_some]
    have hc := esc_cases (s.extract i s.size)
    have ho := bs_one s i (by omega)
    generalize esc (s.extract i s.size) = e at *
    by_cases b : e.2 = 0
    · have hz : bs (x ++ s.extract i (i + 1)) = bs x ++ [bt s (i : Int)] := by rw [bs_append, ho]
      have hz2 : (x ++ s.extract i (i + 1)).size = x.size + 1 := by rw [bs_size _ _ hz, List.length_append, bs_len]; rfl
      have hz3 := bs_size _ _ ho
      simp only [List.length_cons, List.length_nil] at hz3
      rw [if_pos b, if_pos b, w64 (x := (i : Int) + 1) (by omega) (by omega), if_pos (by omega), if_pos (by omega), show (i : Int) + 1 = ((i + 1 : Nat) : Int) by omega, Int.toNat_natCast, put_text x _ (by omega) (by omega), Option.bind_some]
      by_cases c : bt s (i : Int) = 92
      · rw [if_pos c, if_pos (by omega)]
        show quote_double_tell.l0 k (l ++ [(i : Int)]) s ((i + 1 : Nat) : Int) (x ++ s.extract i (i + 1)) = _
        rw [ih k (i + 1) _ _ (by omega) (by omega) (by omega) (by omega) (by rw [List.length_append]; simp only [List.length_cons, List.length_nil]; omega), hz, if_pos c, List.append_assoc, List.append_assoc]
        rfl
      · rw [if_neg c]
        show quote_double_tell.l0 k l s ((i + 1 : Nat) : Int) (x ++ s.extract i (i + 1)) = _
        rw [ih k (i + 1) _ _ (by omega) (by omega) (by omega) (by omega) (by omega), hz, if_neg c, List.append_assoc]
        rfl
    · rw [if_neg b, if_neg b, put_text x _ (by omega) (by omega), Option.bind_some]
      obtain ⟨h0, h1, h2, _⟩ := hc.resolve_left b
      show quote_double_tell.l0 k l s (wrap64 ((i : Int) + e.2)) (x ++ e.1) = _
      rw [w64 (by omega) (by omega), show (i : Int) + e.2 = ((i + e.2.toNat : Nat) : Int) by omega]
      by_cases hh : i + e.2.toNat ≤ s.size + 10
      · rw [ih k (i + e.2.toNat) _ _ (by omega) (by omega) hh (by rw [ByteArray.size_append]; omega) (by omega), bs_append, List.append_assoc]
      · omega
theorem ref_double (s : ByteArray) (hs : s.size ≤ 10000) (n : Nat) : ∀ (k i : Nat) (x : ByteArray) (l : List Int), s.size ≤ i + n → n + 40 < k → i ≤ s.size + 10 → x.size ≤ 4 * i → l.length ≤ i →
    correctorref7_double.l0 k s x l (i : Int) = some (strOfNums (bs x ++ (dq s n i).1), l ++ (dq s n i).2.1, (dq s n i).2.2) := by
  have fin (x : ByteArray) (l : List Int) (b : Bool) : (some (x, l, b) : Option (ByteArray × List Int × Bool)) = some (strOfNums (bs x ++ []), l ++ [], b) := by rw [List.append_nil, nums_bs, List.append_nil]
  induction n with
  | zero =>
    intro k i x l hn hk hi hx hl
    obtain ⟨k, rfl⟩ : ∃ m, k = m + 1 := ⟨k - 1, by omega⟩
    rw [correctorref7_double.l0, if_neg (by omega)]
    exact fin x l false
  | succ n ih =>
    intro k i x l hn hk hi hx hl
    obtain ⟨k, rfl⟩ : ∃ m, k = m + 1 := ⟨k - 1, by omega⟩
    rw [correctorref7_double.l0, dq]
    by_cases h : s.size ≤ i
    · rw [if_neg (by omega), if_neg (by omega)]
      exact fin x l false
    rw [if_pos (by omega), if_pos (by omega), if_pos (show i < s.size by omega)]
    by_cases a : bt s (i : Int) = 34
    · rw [if_pos a, if_pos a]
      exact fin x l true
    rw [if_neg a, if_neg a]
    have hc := esc_cases (s.extract i s.size)
    rw [bt_tail s i (by omega)] at hc
    have ho := bs_one s i (by omega)
    have hz : bs (x ++ s.extract i (i + 1)) = bs x ++ [bt s (i : Int)] := by rw [bs_append, ho]
    have hz2 : (x ++ s.extract i (i + 1)).size = x.size + 1 := by rw [bs_size _ _ hz, List.length_append, bs_len]; rfl
    have hz3 := bs_size _ _ ho
    simp only [List.length_cons, List.length_nil] at hz3
    rw [w64 (x := (i : Int) + 1) (by omega) (by omega), show (i : Int) + 1 = ((i + 1 : Nat) : Int) by omega, Int.toNat_natCast, Int.toNat_natCast]
    by_cases c : bt s (i : Int) = 92
    · rw [if_pos c, if_pos (by omega), refescape_eq k (by omega), Option.bind_some]
      generalize esc (s.extract i s.size) = e at *
      by_cases b : e.2 = 0
      · rw [if_pos b, if_pos b, if_pos (by omega), if_pos (by omega), if_pos (by omega), if_pos (by omega),
          ih k (i + 1) _ _ (by omega) (by omega) (by omega) (by omega) (by rw [List.length_append]; simp only [List.length_cons, List.length_nil]; omega), hz, if_pos c, List.append_assoc, List.append_assoc]
        rfl
      · obtain ⟨h0, h1, h2, _⟩ := hc.resolve_left b
        rw [if_neg b, if_neg b, if_pos (by omega), w64 (by omega) (by omega), show (i : Int) + e.2 = ((i + e.2.toNat : Nat) : Int) by omega]
        by_cases hh : i + e.2.toNat ≤ s.size + 10
        · rw [ih k (i + e.2.toNat) _ _ (by omega) (by omega) hh (by rw [ByteArray.size_append]; omega) (by omega), bs_append, List.append_assoc]
        · omega
    · rw [if_neg c, if_pos (by omega), if_pos (by omega), if_pos (by omega), if_pos (hc.resolve_right fun h => c h.2.2.2),
        ih k (i + 1) _ _ (by omega) (by omega) (by omega) (by omega) (by omega), hz, if_neg c, List.append_assoc]
      rfl

/-- What a token's text says. -/
def qt (a0 : Int) (s : ByteArray) : ByteArray × List Int × Bool :=
  if s.size = 0 then (⟨#[]⟩, [], false) else if a0 = 15 then (s, [], true) else if a0 = 16 then (strOfNums (sq ((bs s).drop 1)).1, [], (sq ((bs s).drop 1)).2)
  else if a0 = 17 then (strOfNums (dq s s.size 1).1, (dq s s.size 1).2.1, (dq s s.size 1).2.2) else (⟨#[]⟩, [], false)
theorem empty_iff (s : ByteArray) : s.toList = ([] : List UInt8) ↔ s.size = 0 := by
  rw [bs_list]
  constructor
  · intro h; have := bs_size _ _ h; simpa using this
  · intro h
    exact List.eq_nil_of_length_eq_zero (by rw [bs_len]; exact h)
theorem dq_bad (s : ByteArray) (n : Nat) : ∀ i, (dq s n i).2.1.length ≤ n := by
  induction n with
  | zero => intro i; exact Nat.le_refl _
  | succ n ih =>
    intro i
    rw [dq]
    have h1 := ih (i + 1)
    have h2 := ih (i + (esc (s.extract i s.size)).2.toNat)
    repeat' split
    all_goals (simp only [List.length_nil, List.length_cons]; omega)
theorem text_eq (k : Nat) (a0 : Int) (s : ByteArray) (hs : s.size ≤ 10000) (hk : 2 * s.size + 60 < k) : quote_Text.f k a0 s = some (qt a0 s) := by
  unfold quote_Text.f qt
  by_cases e : s.size = 0
  · rw [if_pos e]
    simp only [if_pos ((empty_iff s).2 e)]
    repeat' split
    all_goals rfl
  have e' : ¬ s.toList = ([] : List UInt8) := fun h => e ((empty_iff s).1 h)
  rw [if_neg e]
  simp only [if_neg e']
  by_cases a : a0 = 15
  · rw [if_pos a, if_pos a]
  rw [if_neg a, if_neg a]
  by_cases b : a0 = 16
  · rw [if_pos b, if_pos b]
    unfold quote_single_tell.f
    have := tell_single s hs s.size k 1 ⟨#[]⟩ (by omega) (by omega) (by omega) (by decide)
    rw [show ((1 : Nat) : Int) = 1 from rfl] at this
    rw [this, Option.bind_some]
    rfl
  rw [if_neg b, if_neg b]
  by_cases c : a0 = 17
  · rw [if_pos c, if_pos c]
    unfold quote_double_tell.f
    have := tell_double s hs s.size k 1 ⟨#[]⟩ [] (by omega) (by omega) (by omega) (by decide) (by decide)
    rw [show ((1 : Nat) : Int) = 1 from rfl] at this
    have hb := dq_bad s s.size 1
    rw [this, Option.bind_some]
    show (if (dq s s.size 1).2.1.length < 17592186044416 then _ else _) = _
    rw [if_pos (by omega)]
    rfl
  · rw [if_neg c, if_neg c]
theorem reftext_eq (k : Nat) (a0 : Int) (s : ByteArray) (hs : s.size ≤ 10000) (hk : 2 * s.size + 60 < k) : correctorref7_Text.f k a0 s = some (qt a0 s) := by
  unfold correctorref7_Text.f qt
  by_cases e : s.size = 0
  · rw [if_pos e, if_pos ((empty_iff s).2 e)]
  rw [if_neg e, if_neg (fun h => e ((empty_iff s).1 h))]
  by_cases a : a0 = 15
  · rw [if_pos a, if_pos a]
  rw [if_neg a, if_neg a]
  by_cases b : a0 = 16
  · rw [if_pos b, if_pos b]
    unfold correctorref7_single.f
    have := ref_single s hs s.size k 1 ⟨#[]⟩ (by omega) (by omega) (by omega) (by decide)
    rw [show ((1 : Nat) : Int) = 1 from rfl] at this
    rw [this, Option.bind_some]
    rfl
  rw [if_neg b, if_neg b]
  by_cases c : a0 = 17
  · rw [if_pos c, if_pos c]
    unfold correctorref7_double.f
    have := ref_double s hs s.size k 1 ⟨#[]⟩ [] (by omega) (by omega) (by omega) (by decide) (by decide)
    rw [show ((1 : Nat) : Int) = 1 from rfl] at this
    rw [this, Option.bind_some]
    rfl
  · rw [if_neg c, if_neg c]
end Go.Proofs.Ytabdoommjdgogaa.Pure
