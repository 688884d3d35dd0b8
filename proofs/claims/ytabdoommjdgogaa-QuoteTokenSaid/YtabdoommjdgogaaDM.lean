/- What a single-quoted text says: a plain law over lists, and that the program and the reference both answer it. -/
import Derived.Test.YtabdoommjdgogaaBM
import Derived.Test.YtabdoommjdgogaaQquote
import Derived.Test.YtabdoommjdgogaaQcorrectorref7
import Derived.Test.YtabdoommjdgogaaQcorrectorlaw7
namespace Go.Proofs.Ytabdoommjdgogaa.Pure
open Go.RowKit Go.Proofs.Ytabdoommjdgogaa.Q Go.Proofs.YtabdoommjdgogaaW.PrintWords Go.Proofs.YtabdoommjdgogaaW.PrintLast
set_option linter.unusedVariables false
set_option linter.unusedSimpArgs false

/-- What follows the first sign of a text between signs '. -/
def sq : List Int → List Int × Bool
  | [] => ([], false)
  | [c] => if c = 39 then ([], true) else ([c], false)
  | c :: d :: t => if c = 39 then (if d = 39 then (39 :: (sq t).1, (sq t).2) else ([], true)) else (c :: (sq (d :: t)).1, (sq (d :: t)).2)
theorem sq_other (c : Int) (t : List Int) (h : c ≠ 39) : sq (c :: t) = (c :: (sq t).1, (sq t).2) := by
  cases t with
  | nil => simp [sq, h]
  | cons d t => rw [sq, if_neg h]
theorem sq_two (t : List Int) : sq (39 :: 39 :: t) = (39 :: (sq t).1, (sq t).2) := by rw [sq, if_pos rfl, if_pos rfl]
theorem sq_end (t : List Int) (h : t.head? ≠ some 39) : sq (39 :: t) = ([], true) := by
  cases t with
  | nil => rw [sq, if_pos rfl]
  | cons d t => rw [sq, if_pos rfl, if_neg (fun e => h (by rw [e]; rfl))]
theorem nums_bs (x : ByteArray) : strOfNums (bs x) = x := bs_inj (bs_nums _ (bs_byt x))
theorem nums_app (x : ByteArray) (l : List Int) (hl : Byt l) : strOfNums (bs x ++ l) = x ++ strOfNums l := bs_inj (by rw [bs_nums _ ((bs_byt x).append hl), bs_append, bs_nums _ hl])
theorem drop_bt (s : ByteArray) (i : Nat) (h : i < s.size) : (bs s).drop i = bt s (i : Int) :: (bs s).drop (i + 1) := by
  have hl : i < (bs s).length := by rw [bs_len]; exact h
  rw [List.drop_eq_getElem_cons hl]
  congr 1
  rw [bt_bs]
  unfold Go.Proofs.YtabdoommjdgogaaW.PrintWords.rd
  rw [Int.toNat_natCast, List.getD_eq_getElem?_getD, List.getElem?_eq_getElem hl]
  rfl
theorem drop_end (s : ByteArray) (i : Nat) (h : s.size ≤ i) : (bs s).drop i = [] := List.drop_eq_nil_of_le (by rw [bs_len]; exact h)
theorem bs_cut (s : ByteArray) (a b : Nat) : bs (s.extract a b) = ((bs s).drop a).take (b - a) := by
  unfold bs
  rw [ByteArray.data_extract, Array.toList_extract, List.extract_eq_take_drop, List.map_take, List.map_drop]
theorem bs_one (s : ByteArray) (i : Nat) (h : i < s.size) : bs (s.extract i (i + 1)) = [bt s (i : Int)] := by
  rw [bs_cut, drop_bt s i h, show i + 1 - i = 1 by omega]
  rfl
theorem bs_size (x : ByteArray) (l : List Int) (h : bs x = l) : x.size = l.length := by rw [← bs_len, h]
theorem bs_nil : bs (⟨#[]⟩ : ByteArray) = [] := rfl

/-! ### The two readings -/
theorem put_byte (x : ByteArray) (c : Int) (h0 : 0 ≤ c) (h1 : c ≤ 255) (hx : x.size ≤ 100000) : strings_Builder_WriteByte.f x c = some (none, x ++ strOfNums [c]) := by
  unfold strings_Builder_WriteByte.f
  rw [if_pos (by omega), if_pos h0, if_pos h1]
theorem put_text (x t : ByteArray) (hx : x.size ≤ 100000) (ht : t.size ≤ 100000) : strings_Builder_WriteString.f x t = some ((t.size : Int), none, x ++ t) := by
  unfold strings_Builder_WriteString.f
  rw [if_pos (by omega)]
theorem byt1 {c : Int} (h : 0 ≤ c ∧ c ≤ 255) : Byt [c] := Byt.cons h.1 h.2 Byt.nil
theorem tell_single (s : ByteArray) (hs : s.size ≤ 10000) (n : Nat) : ∀ (k i : Nat) (x : ByteArray), s.size ≤ i + n → 2 * n + 2 < k → i ≤ s.size + 1 → x.size ≤ i →
    quote_single_tell.l0 k s (i : Int) x = some (strOfNums (bs x ++ (sq ((bs s).drop i)).1), [], (sq ((bs s).drop i)).2) := by
  have done (k i : Nat) (x : ByteArray) (hk : 0 < k) (hi : s.size ≤ i) : quote_single_tell.l0 k s (i : Int) x = some (strOfNums (bs x ++ (sq ((bs s).drop i)).1), [], (sq ((bs s).drop i)).2) := by
    obtain ⟨k, rfl⟩ : ∃ m, k = m + 1 := ⟨k - 1, by omega⟩
    rw [quote_single_tell.l0, if_neg (by omega), drop_end s i hi]
    show some (x, [], false) = some (strOfNums (bs x ++ []), [], false)
    rw [List.append_nil, nums_bs]
  induction n using Nat.strongRecOn with
  | _ n ih =>
    intro k i x hn hk hi hx
    by_cases h : s.size ≤ i
    · exact done k i x (by omega) h
    have hr := bt_range s (i : Int)
    obtain ⟨k, rfl⟩ : ∃ m, k = m + 2 := ⟨k - 2, by omega⟩
    rw [quote_single_tell.l0, if_pos (by omega), if_pos (by omega), w64 (x := (i : Int) + 1) (by omega) (by omega), show (i : Int) + 1 = ((i + 1 : Nat) : Int) by omega, drop_bt s i (by omega)]
    by_cases c : bt s (i : Int) = 39
    · rw [if_pos c, c]
      by_cases d : i + 1 = s.size
      · rw [if_pos (by omega), quote_single_tell.j1, if_pos rfl, drop_end s (i + 1) (by omega)]
        show some (x, [], true) = some (strOfNums (bs x ++ []), [], true)
        rw [List.append_nil, nums_bs]
      rw [if_neg (by omega), if_pos (by omega), if_pos (by omega), quote_single_tell.j1, w64 (x := (i : Int) + 1) (by omega) (by omega), show (i : Int) + 1 = ((i + 1 : Nat) : Int) by omega, drop_bt s (i + 1) (by omega)]
      by_cases e : bt s ((i + 1 : Nat) : Int) = 39
      · rw [e, if_neg (by decide), if_pos (by omega), if_pos (by omega), put_byte _ _ (by omega) (by omega) (by omega)]
        rw [Option.bind_some]
        have hz : bs (x ++ strOfNums [39]) = bs x ++ [39] := by rw [bs_append, bs_nums _ (byt1 (by omega))]
        have hz2 : (x ++ strOfNums [39]).size = x.size + 1 := by rw [bs_size _ _ hz, List.length_append, bs_len]; rfl
        show quote_single_tell.l0 k s (wrap64 (((i + 1 : Nat) : Int) + 1)) (x ++ strOfNums [39]) = _
        rw [w64 (by omega) (by omega), show ((i + 1 : Nat) : Int) + 1 = ((i + 1 + 1 : Nat) : Int) by omega, ih (n - 2) (by omega) k (i + 1 + 1) _ (by omega) (by omega) (by omega) (by omega), sq_two, hz, List.append_assoc]
        rfl
      · rw [if_pos (by simpa using e), sq_end _ (by simpa using e)]
        show some (x, [], true) = some (strOfNums (bs x ++ []), [], true)
        rw [List.append_nil, nums_bs]
    · rw [if_neg c, put_byte _ _ hr.1 hr.2 (by omega), Option.bind_some]
      have hz : bs (x ++ strOfNums [bt s (i : Int)]) = bs x ++ [bt s (i : Int)] := by rw [bs_append, bs_nums _ (byt1 hr)]
      have hz2 : (x ++ strOfNums [bt s (i : Int)]).size = x.size + 1 := by rw [bs_size _ _ hz, List.length_append, bs_len]; rfl
      show quote_single_tell.l0 (k + 1) s ((i + 1 : Nat) : Int) (x ++ strOfNums [bt s (i : Int)]) = _
      rw [ih (n - 1) (by omega) (k + 1) (i + 1) _ (by omega) (by omega) (by omega) (by omega), hz, sq_other _ _ c, List.append_assoc]
      rfl
theorem ref_single (s : ByteArray) (hs : s.size ≤ 10000) (n : Nat) : ∀ (k i : Nat) (x : ByteArray), s.size ≤ i + n → 2 * n + 2 < k → i ≤ s.size + 1 → x.size ≤ i →
    correctorref7_single.l0 k s x (i : Int) = some (strOfNums (bs x ++ (sq ((bs s).drop i)).1), (sq ((bs s).drop i)).2) := by
  have done (k i : Nat) (x : ByteArray) (hk : 0 < k) (hi : s.size ≤ i) : correctorref7_single.l0 k s x (i : Int) = some (strOfNums (bs x ++ (sq ((bs s).drop i)).1), (sq ((bs s).drop i)).2) := by
    obtain ⟨k, rfl⟩ : ∃ m, k = m + 1 := ⟨k - 1, by omega⟩
    rw [correctorref7_single.l0, if_neg (by omega), drop_end s i hi]
    show some (x, false) = some (strOfNums (bs x ++ []), false)
    rw [List.append_nil, nums_bs]
  induction n using Nat.strongRecOn with
  | _ n ih =>
    intro k i x hn hk hi hx
    by_cases h : s.size ≤ i
    · exact done k i x (by omega) h
    have hr := bt_range s (i : Int)
    obtain ⟨k, rfl⟩ : ∃ m, k = m + 2 := ⟨k - 2, by omega⟩
    rw [correctorref7_single.l0, if_pos (by omega), if_pos (by omega), w64 (x := (i : Int) + 1) (by omega) (by omega), show (i : Int) + 1 = ((i + 1 : Nat) : Int) by omega, drop_bt s i (by omega)]
    by_cases c : bt s (i : Int) = 39
    · rw [if_pos c, c]
      by_cases d : i + 1 = s.size
      · rw [if_pos (by omega), drop_end s (i + 1) (by omega)]
        show some (x, true) = some (strOfNums (bs x ++ []), true)
        rw [List.append_nil, nums_bs]
      rw [if_neg (by omega), if_pos (by omega), if_pos (by omega), drop_bt s (i + 1) (by omega)]
      by_cases e : bt s ((i + 1 : Nat) : Int) = 39
      · rw [if_pos e, e, if_pos (by omega)]
        have hz : bs (x ++ (⟨#[39]⟩ : ByteArray)) = bs x ++ [39] := by rw [bs_append]; rfl
        have hz2 : (x ++ (⟨#[39]⟩ : ByteArray)).size = x.size + 1 := by rw [bs_size _ _ hz, List.length_append, bs_len]; rfl
        rw [w64 (by omega) (by omega), show ((i + 1 : Nat) : Int) + 1 = ((i + 1 + 1 : Nat) : Int) by omega, ih (n - 2) (by omega) (k + 1) (i + 1 + 1) _ (by omega) (by omega) (by omega) (by omega), sq_two, hz, List.append_assoc]
        rfl
      · rw [if_neg e, sq_end _ (by simpa using e)]
        show some (x, true) = some (strOfNums (bs x ++ []), true)
        rw [List.append_nil, nums_bs]
    · have hz : bs (x ++ s.extract i (i + 1)) = bs x ++ [bt s (i : Int)] := by rw [bs_append, bs_one s i (by omega)]
      have hz2 := bs_size _ _ hz
      have hz3 := bs_size _ _ (bs_one s i (by omega))
      rw [List.length_append, bs_len] at hz2
      simp only [List.length_cons, List.length_nil] at hz2 hz3
      rw [if_neg c, if_pos (by omega), if_pos (by omega), Int.toNat_natCast, Int.toNat_natCast, if_pos (by omega), ih (n - 1) (by omega) (k + 1) (i + 1) _ (by omega) (by omega) (by omega) (by omega), hz, sq_other _ _ c, List.append_assoc]
      rfl
end Go.Proofs.Ytabdoommjdgogaa.Pure
/- What a double-quoted text says, and what any token's text says: plain laws, and that the program and the reference both answer them. -/
namespace Go.Proofs.Ytabdoommjdgogaa.Pure
open Go.RowKit Go.Proofs.Ytabdoommjdgogaa.Q Go.Proofs.YtabdoommjdgogaaW.PrintWords Go.Proofs.YtabdoommjdgogaaW.PrintLast
set_option linter.unusedVariables false
set_option linter.unusedSimpArgs false

/-- What a text between signs " says, from a place on. -/
def dq (s : ByteArray) : Nat → Nat → List Int × List Int × Bool
  | 0, _ => ([], [], false)
  | n + 1, i => if i < s.size then (if bt s (i : Int) = 34 then ([], [], true) else
      if (esc (s.extract i s.size)).2 = 0 then (bt s (i : Int) :: (dq s n (i + 1)).1, (if bt s (i : Int) = 92 then (i : Int) :: (dq s n (i + 1)).2.1 else (dq s n (i + 1)).2.1), (dq s n (i + 1)).2.2)
      else (bs (esc (s.extract i s.size)).1 ++ (dq s n (i + (esc (s.extract i s.size)).2.toNat)).1, (dq s n (i + (esc (s.extract i s.size)).2.toNat)).2.1, (dq s n (i + (esc (s.extract i s.size)).2.toNat)).2.2))
    else ([], [], false)
theorem enc_size (v : Int) : (Utf8.encode v).size ≤ 4 := by
  unfold Utf8.encode
  simp only
  repeat' split
  all_goals (simp only [List.size_toArray, List.length_cons, List.length_nil, ByteArray.size])
  all_goals omega
theorem simp1_size (c : Int) (t : ByteArray) (h : simp1 c = some t) : t.size ≤ 4 := by
  unfold simp1 at h
  have e (c : Int) : (Utf8.encode c).size ≤ 4 := enc_size c
  repeat' split at h
  all_goals first | (obtain rfl := Option.some.inj h; first | exact e _ | decide) | cases h
theorem esc_cases (t : ByteArray) : (esc t).2 = 0 ∨ (2 ≤ (esc t).2 ∧ (esc t).2 ≤ 10 ∧ (esc t).1.size ≤ 4 ∧ bt t 0 = 92) := by
  unfold esc
  by_cases a : t.size < 2 ∨ bt t 0 ≠ 92
  · rw [if_pos a]; exact .inl rfl
  rw [if_neg a]
  have hb : bt t 0 = 92 := Decidable.byContradiction fun h => a (.inr h)
  cases h : simp1 (bt t 1) with
  | some u => exact .inr ⟨show (2 : Int) ≤ 2 by decide, show (2 : Int) ≤ 10 by decide, simp1_size _ _ h, hb⟩
  | none =>
    simp only
    split
    · exact .inl rfl
    split
    · exact .inl rfl
    · have := digs_cases (bt t 1)
      rename_i h1 h2
      exact .inr ⟨by simp only; omega, by simp only; omega, enc_size _, hb⟩
theorem bt_tail (s : ByteArray) (i : Nat) (h : i < s.size) : bt (s.extract i s.size) 0 = bt s (i : Int) := by
  have := bt_extract s i s.size (Nat.le_refl _) 0 (by omega)
  simpa using this
theorem tell_double (s : ByteArray) (hs : s.size ≤ 10000) (n : Nat) : ∀ (k i : Nat) (x : ByteArray) (l : List Int), s.size ≤ i + n → n + 40 < k → i ≤ s.size + 10 → x.size ≤ 4 * i → l.length ≤ i →
    quote_double_tell.l0 k l s (i : Int) x = some (strOfNums (bs x ++ (dq s n i).1), l ++ (dq s n i).2.1, (dq s n i).2.2) := by
  have fin (x : ByteArray) (l : List Int) (b : Bool) : (some (x, l, b) : Option (ByteArray × List Int × Bool)) = some (strOfNums (bs x ++ []), l ++ [], b) := by rw [List.append_nil, nums_bs, List.append_nil]
  induction n with
  | zero =>
    intro k i x l hn hk hi hx hl
    obtain ⟨k, rfl⟩ : ∃ m, k = m + 1 := ⟨k - 1, by omega⟩
    rw [quote_double_tell.l0, if_neg (by omega)]
    exact fin x l false
  | succ n ih =>
    intro k i x l hn hk hi hx hl
    obtain ⟨k, rfl⟩ : ∃ m, k = m + 1 := ⟨k - 1, by omega⟩
    rw [quote_double_tell.l0, dq]
    by_cases h : s.size ≤ i
    · rw [if_neg (by omega), if_neg (by omega)]
      exact fin x l false
    rw [if_pos (by omega), if_pos (by omega), if_pos (show i < s.size by omega)]
    by_cases a : bt s (i : Int) = 34
    · rw [if_pos a, if_pos a]
      exact fin x l true
    rw [if_neg a, if_neg a, if_pos (by omega), Int.toNat_natCast, escape_eq k (by omega), Option.bind_some]
    have hc := esc_cases (s.extract i s.size)
    have ho := bs_one s i (by omega)
    generalize esc (s.extract i s.size) = e at *
    by_cases b : e.2 = 0
    · have hz : bs (x ++ s.extract i (i + 1)) = bs x ++ [bt s (i : Int)] := by rw [bs_append, ho]
      have hz2 : (x ++ s.extract i (i + 1)).size = x.size + 1 := by rw [bs_size _ _ hz, List.length_append, bs_len]; rfl
      have hz3 := bs_size _ _ ho
      simp only [List.length_cons, List.length_nil] at hz3
      rw [if_pos b, if_pos b, w64 (x := (i : Int) + 1) (by omega) (by omega), if_pos (by omega), if_pos (by omega), show (i : Int) + 1 = ((i + 1 : Nat) : Int) by omega, Int.toNat_natCast, put_text x _ (by omega) (by omega), Option.bind_some]
      by_cases c : bt s (i : Int) = 92
      · rw [if_pos c, if_pos (by omega)]
        show quote_double_tell.l0 k (l ++ [(i : Int)]) s ((i + 1 : Nat) : Int) (x ++ s.extract i (i + 1)) = _
        rw [ih k (i + 1) _ _ (by omega) (by omega) (by omega) (by omega) (by rw [List.length_append]; simp only [List.length_cons, List.length_nil]; omega), hz, if_pos c, List.append_assoc, List.append_assoc]
        rfl
      · rw [if_neg c]
        show quote_double_tell.l0 k l s ((i + 1 : Nat) : Int) (x ++ s.extract i (i + 1)) = _
        rw [ih k (i + 1) _ _ (by omega) (by omega) (by omega) (by omega) (by omega), hz, if_neg c, List.append_assoc]
        rfl
    · rw [if_neg b, if_neg b, put_text x _ (by omega) (by omega), Option.bind_some]
      obtain ⟨h0, h1, h2, _⟩ := hc.resolve_left b
      show quote_double_tell.l0 k l s (wrap64 ((i : Int) + e.2)) (x ++ e.1) = _
      rw [w64 (by omega) (by omega), show (i : Int) + e.2 = ((i + e.2.toNat : Nat) : Int) by omega]
      by_cases hh : i + e.2.toNat ≤ s.size + 10
      · rw [ih k (i + e.2.toNat) _ _ (by omega) (by omega) hh (by rw [ByteArray.size_append]; omega) (by omega), bs_append, List.append_assoc]
      · omega
theorem ref_double (s : ByteArray) (hs : s.size ≤ 10000) (n : Nat) : ∀ (k i : Nat) (x : ByteArray) (l : List Int), s.size ≤ i + n → n + 40 < k → i ≤ s.size + 10 → x.size ≤ 4 * i → l.length ≤ i →
    correctorref7_double.l0 k s x l (i : Int) = some (strOfNums (bs x ++ (dq s n i).1), l ++ (dq s n i).2.1, (dq s n i).2.2) := by
  have fin (x : ByteArray) (l : List Int) (b : Bool) : (some (x, l, b) : Option (ByteArray × List Int × Bool)) = some (strOfNums (bs x ++ []), l ++ [], b) := by rw [List.append_nil, nums_bs, List.append_nil]
  induction n with
  | zero =>
    intro k i x l hn hk hi hx hl
    obtain ⟨k, rfl⟩ : ∃ m, k = m + 1 := ⟨k - 1, by omega⟩
    rw [correctorref7_double.l0, if_neg (by omega)]
    exact fin x l false
  | succ n ih =>
    intro k i x l hn hk hi hx hl
    obtain ⟨k, rfl⟩ : ∃ m, k = m + 1 := ⟨k - 1, by omega⟩
    rw [correctorref7_double.l0, dq]
    by_cases h : s.size ≤ i
    · rw [if_neg (by omega), if_neg (by omega)]
      exact fin x l false
    rw [if_pos (by omega), if_pos (by omega), if_pos (show i < s.size by omega)]
    by_cases a : bt s (i : Int) = 34
    · rw [if_pos a, if_pos a]
      exact fin x l true
    rw [if_neg a, if_neg a]
    have hc := esc_cases (s.extract i s.size)
    rw [bt_tail s i (by omega)] at hc
    have ho := bs_one s i (by omega)
    have hz : bs (x ++ s.extract i (i + 1)) = bs x ++ [bt s (i : Int)] := by rw [bs_append, ho]
    have hz2 : (x ++ s.extract i (i + 1)).size = x.size + 1 := by rw [bs_size _ _ hz, List.length_append, bs_len]; rfl
    have hz3 := bs_size _ _ ho
    simp only [List.length_cons, List.length_nil] at hz3
    rw [w64 (x := (i : Int) + 1) (by omega) (by omega), show (i : Int) + 1 = ((i + 1 : Nat) : Int) by omega, Int.toNat_natCast, Int.toNat_natCast]
    by_cases c : bt s (i : Int) = 92
    · rw [if_pos c, if_pos (by omega), refescape_eq k (by omega), Option.bind_some]
      generalize esc (s.extract i s.size) = e at *
      by_cases b : e.2 = 0
      · rw [if_pos b, if_pos b, if_pos (by omega), if_pos (by omega), if_pos (by omega), if_pos (by omega),
          ih k (i + 1) _ _ (by omega) (by omega) (by omega) (by omega) (by rw [List.length_append]; simp only [List.length_cons, List.length_nil]; omega), hz, if_pos c, List.append_assoc, List.append_assoc]
        rfl
      · obtain ⟨h0, h1, h2, _⟩ := hc.resolve_left b
        rw [if_neg b, if_neg b, if_pos (by omega), w64 (by omega) (by omega), show (i : Int) + e.2 = ((i + e.2.toNat : Nat) : Int) by omega]
        by_cases hh : i + e.2.toNat ≤ s.size + 10
        · rw [ih k (i + e.2.toNat) _ _ (by omega) (by omega) hh (by rw [ByteArray.size_append]; omega) (by omega), bs_append, List.append_assoc]
        · omega
    · rw [if_neg c, if_pos (by omega), if_pos (by omega), if_pos (by omega), if_pos (hc.resolve_right fun h => c h.2.2.2),
        ih k (i + 1) _ _ (by omega) (by omega) (by omega) (by omega) (by omega), hz, if_neg c, List.append_assoc]
      rfl

/-- What a token's text says. -/
def qt (a0 : Int) (s : ByteArray) : ByteArray × List Int × Bool :=
  if s.size = 0 then (⟨#[]⟩, [], false) else if a0 = 15 then (s, [], true) else if a0 = 16 then (strOfNums (sq ((bs s).drop 1)).1, [], (sq ((bs s).drop 1)).2)
  else if a0 = 17 then (strOfNums (dq s s.size 1).1, (dq s s.size 1).2.1, (dq s s.size 1).2.2) else (⟨#[]⟩, [], false)
theorem empty_iff (s : ByteArray) : s.toList = ([] : List UInt8) ↔ s.size = 0 := by
  rw [bs_list]
  constructor
  · intro h; have := bs_size _ _ h; simpa using this
  · intro h
    exact List.eq_nil_of_length_eq_zero (by rw [bs_len]; exact h)
theorem dq_bad (s : ByteArray) (n : Nat) : ∀ i, (dq s n i).2.1.length ≤ n := by
  induction n with
  | zero => intro i; exact Nat.le_refl _
  | succ n ih =>
    intro i
    rw [dq]
    have h1 := ih (i + 1)
    have h2 := ih (i + (esc (s.extract i s.size)).2.toNat)
    repeat' split
    all_goals (simp only [List.length_nil, List.length_cons]; omega)
theorem text_eq (k : Nat) (a0 : Int) (s : ByteArray) (hs : s.size ≤ 10000) (hk : 2 * s.size + 60 < k) : quote_Text.f k a0 s = some (qt a0 s) := by
  unfold quote_Text.f qt
  by_cases e : s.size = 0
  · rw [if_pos e]
    simp only [if_pos ((empty_iff s).2 e)]
    repeat' split
    all_goals rfl
  have e' : ¬ s.toList = ([] : List UInt8) := fun h => e ((empty_iff s).1 h)
  rw [if_neg e]
  simp only [if_neg e']
  by_cases a : a0 = 15
  · rw [if_pos a, if_pos a]
  rw [if_neg a, if_neg a]
  by_cases b : a0 = 16
  · rw [if_pos b, if_pos b]
    unfold quote_single_tell.f
    have := tell_single s hs s.size k 1 ⟨#[]⟩ (by omega) (by omega) (by omega) (by decide)
    rw [show ((1 : Nat) : Int) = 1 from rfl] at this
    rw [this, Option.bind_some]
    rfl
  rw [if_neg b, if_neg b]
  by_cases c : a0 = 17
  · rw [if_pos c, if_pos c]
    unfold quote_double_tell.f
    have := tell_double s hs s.size k 1 ⟨#[]⟩ [] (by omega) (by omega) (by omega) (by decide) (by decide)
    rw [show ((1 : Nat) : Int) = 1 from rfl] at this
    have hb := dq_bad s s.size 1
    rw [this, Option.bind_some]
    show (if (dq s s.size 1).2.1.length < 17592186044416 then _ else _) = _
    rw [if_pos (by omega)]
    rfl
  · rw [if_neg c, if_neg c]
theorem reftext_eq (k : Nat) (a0 : Int) (s : ByteArray) (hs : s.size ≤ 10000) (hk : 2 * s.size + 60 < k) : correctorref7_Text.f k a0 s = some (qt a0 s) := by
  unfold correctorref7_Text.f qt
  by_cases e : s.size = 0
  · rw [if_pos e, if_pos ((empty_iff s).2 e)]
  rw [if_neg e, if_neg (fun h => e ((empty_iff s).1 h))]
  by_cases a : a0 = 15
  · rw [if_pos a, if_pos a]
  rw [if_neg a, if_neg a]
  by_cases b : a0 = 16
  · rw [if_pos b, if_pos b]
    unfold correctorref7_single.f
    have := ref_single s hs s.size k 1 ⟨#[]⟩ (by omega) (by omega) (by omega) (by decide)
    rw [show ((1 : Nat) : Int) = 1 from rfl] at this
    rw [this, Option.bind_some]
    rfl
  rw [if_neg b, if_neg b]
  by_cases c : a0 = 17
  · rw [if_pos c, if_pos c]
    unfold correctorref7_double.f
    have := ref_double s hs s.size k 1 ⟨#[]⟩ [] (by omega) (by omega) (by omega) (by decide) (by decide)
    rw [show ((1 : Nat) : Int) = 1 from rfl] at this
    rw [this, Option.bind_some]
    rfl
  · rw [if_neg c, if_neg c]
end Go.Proofs.Ytabdoommjdgogaa.Pure
/- Chapter 7: the law's own helpers. -/
namespace Go.Proofs.Ytabdoommjdgogaa.Pure
open Go.RowKit Go.Proofs.Ytabdoommjdgogaa.Q Go.Proofs.YtabdoommjdgogaaW.PrintWords Go.Proofs.YtabdoommjdgogaaW.PrintLast
set_option linter.unusedVariables false
set_option linter.unusedSimpArgs false
theorem known7 (K : Nat) (hK : 100 < K) : correctorlaw7_known.f K = some true := by
  have e : qt 16 (⟨#[39, 97, 39, 39, 98, 39]⟩ : ByteArray) = (⟨#[97, 39, 98]⟩, [], true) := by decide +kernel
  unfold correctorlaw7_known.f
  rw [text_eq K 16 _ (by decide) (by show 2 * 6 + 60 < K; omega), Option.bind_some, e]
  have h : (⟨#[97, 39, 98]⟩ : ByteArray).toList = ([97, 39, 98] : List UInt8) := by rw [bs_list]; rfl
  rw [if_pos h]
  rfl
theorem within7 (at_ n : Int) (h0 : 0 < n) (hn : n < 1000000) : ∃ t, correctorlaw7_within.f at_ n = some t ∧ 0 ≤ t ∧ t < n := by
  unfold correctorlaw7_within.f
  rw [if_neg (by omega)]
  have h1 := Int.lt_tmod_of_pos at_ h0
  have h2 := Int.tmod_lt_of_pos at_ h0
  by_cases c : Int.tmod at_ n < 0
  · rw [if_pos c, w64 (by omega) (by omega)]
    exact ⟨_, rfl, by omega, by omega⟩
  · rw [if_neg c]
    exact ⟨_, rfl, by omega, by omega⟩
theorem ints_same (l : List Int) (hl : l.length ≤ 100000) (d : Nat) : ∀ (k n : Nat), n + d = l.length → d < k → correctorlaw7_ints.l0 k l l (n : Int) = some true := by
  induction d with
  | zero =>
    intro k n hn hk
    obtain ⟨k, rfl⟩ : ∃ m, k = m + 1 := ⟨k - 1, by omega⟩
    rw [correctorlaw7_ints.l0, if_neg (by omega)]
  | succ d ih =>
    intro k n hn hk
    obtain ⟨k, rfl⟩ : ∃ m, k = m + 1 := ⟨k - 1, by omega⟩
    rw [correctorlaw7_ints.l0, if_pos (by omega), if_pos (by omega), if_pos (by omega), if_pos rfl, w64 (by omega) (by omega), show (n : Int) + 1 = ((n + 1 : Nat) : Int) by omega]
    exact ih k (n + 1) (by omega) (by omega)
theorem ints_eq (k : Nat) (l : List Int) (hl : l.length ≤ 100000) (hk : l.length < k) : correctorlaw7_ints.f k l l = some true := by
  unfold correctorlaw7_ints.f
  rw [if_pos rfl]
  exact ints_same l hl l.length k 0 (by omega) hk
theorem qt_bad (a0 : Int) (s : ByteArray) : (qt a0 s).2.1.length ≤ s.size := by
  unfold qt
  have := dq_bad s s.size 1
  repeat' split
  all_goals first | exact this | exact Nat.zero_le _
end Go.Proofs.Ytabdoommjdgogaa.Pure
/- How a text is written between signs ": a plain law, that the program and the reference both answer it, and how it is read again. -/
namespace Go.Proofs.Ytabdoommjdgogaa.Pure
open Go.RowKit Go.Proofs.Ytabdoommjdgogaa.Q Go.Proofs.YtabdoommjdgogaaW.PrintWords Go.Proofs.YtabdoommjdgogaaW.PrintLast
set_option linter.unusedVariables false
set_option linter.unusedSimpArgs false
def hx (d : Int) : Int := if d < 10 then 48 + d else 87 + d
/-- A byte, as it is written. -/
def sg (c : Int) : List Int :=
  if c = 34 ∨ c = 92 then [92, c] else if c = 0 then [92, 48] else if c = 9 then [92, 116] else if c = 10 then [92, 110] else if c = 13 then [92, 114]
  else if c < 32 then [92, 120, hx (c / 16), hx (c % 16)] else [c]
def sgs : List Int → List Int
  | [] => []
  | c :: t => sg c ++ sgs t
theorem hx_range (d : Int) (h0 : 0 ≤ d) (h1 : d < 16) : 0 ≤ hx d ∧ hx d ≤ 255 := by unfold hx; split <;> omega
theorem sg_byt (c : Int) (h : 0 ≤ c ∧ c ≤ 255) : Byt (sg c) ∧ (sg c).length ≤ 4 := by
  have h1 := hx_range (c % 16) (by omega) (by omega)
  unfold sg
  refine ⟨?_, ?_⟩
  · repeat' split
    · exact Byt.cons (by omega) (by omega) (byt1 h)
    · exact Byt.cons (by omega) (by omega) (byt1 (by omega))
    · exact Byt.cons (by omega) (by omega) (byt1 (by omega))
    · exact Byt.cons (by omega) (by omega) (byt1 (by omega))
    · exact Byt.cons (by omega) (by omega) (byt1 (by omega))
    · have h2 := hx_range (c / 16) (by omega) (by omega)
      exact Byt.cons (by omega) (by omega) (Byt.cons (by omega) (by omega) (Byt.cons h2.1 h2.2 (byt1 h1)))
    · exact byt1 h
  · repeat' split
    all_goals (simp only [List.length_cons, List.length_nil]; omega)
theorem sgs_byt (l : List Int) (h : Byt l) : Byt (sgs l) := by
  induction l with
  | nil => exact Byt.nil
  | cons c t ih =>
    rw [sgs]
    exact (sg_byt c (h c (List.mem_cons_self ..))).1.append (ih fun x hx => h x (List.mem_cons_of_mem _ hx))
theorem sgs_len (l : List Int) (h : Byt l) : (sgs l).length ≤ 4 * l.length := by
  induction l with
  | nil => exact Nat.le_refl _
  | cons c t ih =>
    have h1 := (sg_byt c (h c (List.mem_cons_self ..))).2
    have h2 := ih fun x hx => h x (List.mem_cons_of_mem _ hx)
    rw [sgs, List.length_append, List.length_cons]
    omega
theorem sign_small : ∀ n : Nat, n < 256 → quote_sign.f 60 (n : Int) = some (strOfNums (sg (n : Int))) := by decide +kernel
theorem sign_eq (k : Nat) (hk : 60 ≤ k) (c : Int) (h : 0 ≤ c ∧ c ≤ 255) : quote_sign.f k c = some (strOfNums (sg c)) := by
  obtain ⟨n, rfl⟩ : ∃ n : Nat, c = (n : Int) := ⟨c.toNat, by omega⟩
  have : ∀ d, quote_sign.f (60 + d) (n : Int) = some (strOfNums (sg (n : Int))) := by
    intro d
    induction d with
    | zero => exact sign_small n (by omega)
    | succ d ih => exact quote_sign.mono _ _ _ ih
  rw [show k = 60 + (k - 60) by omega]
  exact this _
theorem write_loop (s : ByteArray) (hs : s.size ≤ 1000) (d : Nat) : ∀ (k i : Nat) (x : ByteArray), i + d = s.size → 70 + d < k → x.size ≤ 4 * i + 1 →
    quote_Write.l0 k s (s.size : Int) (i : Int) x = some (strOfNums (bs x ++ (sgs ((bs s).drop i) ++ [34]))) := by
  induction d with
  | zero =>
    intro k i x hi hk hx
    obtain ⟨k, rfl⟩ : ∃ m, k = m + 1 := ⟨k - 1, by omega⟩
    rw [quote_Write.l0, if_neg (by omega), put_byte x 34 (by omega) (by omega) (by omega), Option.bind_some, drop_end s i (by omega)]
    show some (x ++ strOfNums [34]) = some (strOfNums (bs x ++ [34]))
    rw [nums_app x [34] (byt1 (by omega))]
  | succ d ih =>
    intro k i x hi hk hx
    obtain ⟨k, rfl⟩ : ∃ m, k = m + 1 := ⟨k - 1, by omega⟩
    have hr := bt_range s (i : Int)
    have hb := sg_byt _ hr
    have hz := bs_size _ _ (bs_nums _ hb.1)
    rw [quote_Write.l0, if_pos (by omega), if_pos (by omega), if_pos (by omega), sign_eq k (by omega) _ hr, Option.bind_some, put_text x _ (by omega) (by omega), Option.bind_some, w64 (by omega) (by omega), show (i : Int) + 1 = ((i + 1 : Nat) : Int) by omega]
    show quote_Write.l0 k s (s.size : Int) ((i + 1 : Nat) : Int) (x ++ strOfNums (sg (bt s (i : Int)))) = _
    rw [ih k (i + 1) _ (by omega) (by omega) (by rw [ByteArray.size_append]; omega), bs_append, bs_nums _ hb.1, drop_bt s i (by omega), sgs, List.append_assoc, List.append_assoc]
/-- A text, as it is written. -/
def wrt (s : ByteArray) : ByteArray := strOfNums (34 :: (sgs (bs s) ++ [34]))
theorem written_eq (k : Nat) (s : ByteArray) (hs : s.size ≤ 1000) (hk : s.size + 80 < k) : quote_Write.f k s = some (wrt s) := by
  unfold quote_Write.f
  rw [put_byte _ 34 (by omega) (by omega) (by decide), Option.bind_some]
  have := write_loop s hs s.size k 0 (⟨#[]⟩ ++ strOfNums [34]) (by omega) (by omega) (by decide)
  rw [show ((0 : Nat) : Int) = 0 from rfl] at this
  show quote_Write.l0 k s (s.size : Int) 0 (⟨#[]⟩ ++ strOfNums [34]) = _
  rw [this]
  rfl

/-! ### The reference -/
theorem hex_cut : ∀ d : Nat, d < 16 → bs ((⟨#[48, 49, 50, 51, 52, 53, 54, 55, 56, 57, 97, 98, 99, 100, 101, 102]⟩ : ByteArray).extract d (d + 1)) = [hx (d : Int)] := by decide +kernel
def HEX : ByteArray := ⟨#[48, 49, 50, 51, 52, 53, 54, 55, 56, 57, 97, 98, 99, 100, 101, 102]⟩
theorem hex_cut2 (d : Int) (h0 : 0 ≤ d) (h1 : d < 16) : bs (HEX.extract d.toNat (d + 1).toNat) = [hx d] := by
  obtain ⟨n, rfl⟩ : ∃ n : Nat, d = (n : Int) := ⟨d.toNat, by omega⟩
  rw [show ((n : Int) + 1).toNat = n + 1 by omega, Int.toNat_natCast]
  exact hex_cut n (by omega)
theorem refwrite_loop (s : ByteArray) (hs : s.size ≤ 1000) (d : Nat) : ∀ (k i : Nat) (x : ByteArray), i + d = s.size → 10 + 2 * d < k → x.size ≤ 4 * i + 1 →
    correctorref7_Write.l0 k s HEX x (i : Int) = some (strOfNums (bs x ++ (sgs ((bs s).drop i) ++ [34]))) := by
  induction d with
  | zero =>
    intro k i x hi hk hx
    obtain ⟨k, rfl⟩ : ∃ m, k = m + 1 := ⟨k - 1, by omega⟩
    rw [correctorref7_Write.l0, if_neg (by omega), if_pos (by omega), drop_end s i (by omega)]
    show some (x ++ strOfNums [34]) = some (strOfNums (bs x ++ [34]))
    rw [nums_app x [34] (byt1 (by omega))]
  | succ d ih =>
    intro k i x hi hk hx
    obtain ⟨k, rfl⟩ : ∃ m, k = m + 2 := ⟨k - 2, by omega⟩
    have hr := bt_range s (i : Int)
    have hb := sg_byt _ hr
    have st : correctorref7_Write.l0 (k + 2) s HEX x (i : Int) = correctorref7_Write.j1 (k + 1) s HEX x (i : Int) (bt s (i : Int)) (decide (bt s (i : Int) = 34 ∨ bt s (i : Int) = 92)) := by
      rw [correctorref7_Write.l0, if_pos (by omega), if_pos (by omega)]
      by_cases a : bt s (i : Int) = 34
      · rw [if_pos a, decide_eq_true (.inl a)]
      · rw [if_neg a]
        congr 1
        by_cases b : bt s (i : Int) = 92
        · rw [decide_eq_true (.inr b), b]; rfl
        · rw [decide_eq_false (by omega)]; exact beq_false_of_ne b
    -- what is put: its bytes, and that it is the byte's sign
    have next (y : ByteArray) (hy : bs y = bs x ++ sg (bt s (i : Int))) : correctorref7_Write.l0 k s HEX y ((i + 1 : Nat) : Int) = some (strOfNums (bs x ++ (sgs ((bs s).drop i) ++ [34]))) := by
      have hz := bs_size _ _ hy
      rw [List.length_append, bs_len] at hz
      rw [ih k (i + 1) y (by omega) (by omega) (by omega), hy, drop_bt s i (by omega), sgs, List.append_assoc, List.append_assoc]
    have ho := bs_one s i (by omega)
    have hz3 := bs_size _ _ ho
    simp only [List.length_cons, List.length_nil] at hz3
    have s1 : (x ++ (⟨#[92]⟩ : ByteArray)).size = x.size + 1 := by rw [ByteArray.size_append]; rfl
    have s2 : (x ++ (⟨#[92, 120]⟩ : ByteArray)).size = x.size + 2 := by rw [ByteArray.size_append]; rfl
    rw [st, correctorref7_Write.j1, w64 (x := (i : Int) + 1) (by omega) (by omega), show (i : Int) + 1 = ((i + 1 : Nat) : Int) by omega, Int.toNat_natCast, Int.toNat_natCast]
    generalize hc : bt s (i : Int) = c at *
    unfold sg at next
    by_cases a : c = 34 ∨ c = 92
    · rw [decide_eq_true a, if_pos rfl, if_pos (by omega), if_pos (by omega), if_pos (by omega), if_pos (by omega), if_pos (by omega)]
      exact next _ (by rw [bs_append, bs_append, ho, if_pos a, List.append_assoc]; rfl)
    rw [decide_eq_false a, if_neg Bool.false_ne_true]
    rw [if_neg a] at next
    by_cases b : c = 0
    · rw [if_pos b, if_pos (by omega)]
      exact next _ (by rw [bs_append, if_pos b]; rfl)
    rw [if_neg b]
    rw [if_neg b] at next
    by_cases d9 : c = 9
    · rw [if_pos d9, if_pos (by omega)]
      exact next _ (by rw [bs_append, if_pos d9]; rfl)
    rw [if_neg d9]
    rw [if_neg d9] at next
    by_cases d10 : c = 10
    · rw [if_pos d10, if_pos (by omega)]
      exact next _ (by rw [bs_append, if_pos d10]; rfl)
    rw [if_neg d10]
    rw [if_neg d10] at next
    by_cases d13 : c = 13
    · rw [if_pos d13, if_pos (by omega)]
      exact next _ (by rw [bs_append, if_pos d13]; rfl)
    rw [if_neg d13]
    rw [if_neg d13] at next
    by_cases e : c < 32
    · have e1 : (c / 16 + 1) % 256 = c / 16 + 1 := by omega
      have e2 : (c % 16 + 1) % 256 = c % 16 + 1 := by omega
      have e3 : (HEX.size : Int) = 16 := rfl
      have h1 := hex_cut2 (c / 16) (by omega) (by omega)
      have h2 := hex_cut2 (c % 16) (by omega) (by omega)
      have z1 := bs_size _ _ h1
      have z2 := bs_size _ _ h2
      simp only [List.length_cons, List.length_nil] at z1 z2
      have s3 : ((x ++ (⟨#[92, 120]⟩ : ByteArray)) ++ (HEX.extract (c / 16).toNat (c / 16 + 1).toNat)).size = x.size + 3 := by rw [ByteArray.size_append]; omega
      rw [if_pos e, u8_and15 c (by omega) (by omega), e1, e2, if_pos (by omega), if_pos (by omega), if_pos (by omega), if_pos (by omega), if_pos (by omega), if_pos (by omega), if_pos (by omega), if_pos (by omega), if_pos (by omega)]
      rw [if_pos e] at next
      exact next _ (by rw [bs_append, bs_append, bs_append, h1, h2, List.append_assoc, List.append_assoc]; rfl)
    · rw [if_neg e, if_pos (by omega), if_pos (by omega), if_pos (by omega), if_pos (by omega)]
      rw [if_neg e] at next
      exact next _ (by rw [bs_append, ho])
theorem refwritten_eq (k : Nat) (s : ByteArray) (hs : s.size ≤ 1000) (hk : 2 * s.size + 80 < k) : correctorref7_Write.f k s = some (wrt s) := by
  unfold correctorref7_Write.f
  have := refwrite_loop s hs s.size k 0 ⟨#[34]⟩ (by omega) (by omega) (by decide)
  rw [show ((0 : Nat) : Int) = 0 from rfl] at this
  exact this.trans rfl

/-! ### Read again -/
theorem bt_at_list (u : ByteArray) (l : List Int) (h : bs u = l) (n : Nat) : bt u (n : Int) = l.getD n 0 := by
  rw [bt_bs, h]
  unfold Go.Proofs.YtabdoommjdgogaaW.PrintWords.rd
  rw [Int.toNat_natCast]
theorem esc_two (u : ByteArray) (e : Int) (rest : List Int) (t : ByteArray) (h : bs u = 92 :: e :: rest) (hs : simp1 e = some t) : esc u = (t, 2) := by
  have hz := bs_size _ _ h
  have h0 : bt u 0 = 92 := bt_at_list u _ h 0
  have h1 : bt u 1 = e := bt_at_list u _ h 1
  simp only [List.length_cons] at hz
  unfold esc
  rw [if_neg (by omega), h1, hs]
theorem hexd_hx : ∀ d : Nat, d < 16 → hexd (hx (d : Int)) = (d : Int) := by decide +kernel
theorem hexd_hx2 (d : Int) (h0 : 0 ≤ d) (h1 : d < 16) : hexd (hx d) = d := by
  obtain ⟨n, rfl⟩ : ∃ n : Nat, d = (n : Int) := ⟨d.toNat, by omega⟩
  exact hexd_hx n (by omega)
theorem esc_hex (u : ByteArray) (c : Int) (rest : List Int) (h0 : 0 ≤ c) (h1 : c < 32) (h : bs u = 92 :: 120 :: hx (c / 16) :: hx (c % 16) :: rest) : esc u = (Utf8.encode c, 4) := by
  have hz := bs_size _ _ h
  have b0 : bt u 0 = 92 := bt_at_list u _ h 0
  have b1 : bt u 1 = 120 := bt_at_list u _ h 1
  have b2 : bt u 2 = hx (c / 16) := bt_at_list u _ h 2
  have b3 : bt u 3 = hx (c % 16) := bt_at_list u _ h 3
  simp only [List.length_cons] at hz
  have hd1 := hexd_hx2 (c / 16) (by omega) (by omega)
  have hd2 := hexd_hx2 (c % 16) (by omega) (by omega)
  have hv : hexv u 2 2 0 = c := by
    unfold hexv
    rw [b2, hd1, if_neg (by omega)]
    unfold hexv
    rw [show (2 : Int) + 1 = 3 from rfl, b3, hd2, if_neg (by omega)]
    unfold hexv
    omega
  have hd : digs 120 = 2 := rfl
  unfold esc
  rw [if_neg (by omega), b1, hd, show simp1 120 = none from rfl]
  simp only
  rw [if_neg (by omega), hv, if_neg (by omega)]
  rfl
theorem enc_bs (c : Int) (h0 : 0 ≤ c) (h1 : c < 128) : bs (Utf8.encode c) = [c] := by
  have := text_wr c ⟨h0, by omega, by omega⟩
  unfold wr at this
  rw [if_pos h1] at this
  rw [← this, bs_nums _ (byt1 (by omega))]
theorem bs_tail (s : ByteArray) (i : Nat) : bs (s.extract i s.size) = (bs s).drop i := bs_drop s i
theorem read_back (w : ByteArray) (l : List Int) (hl : Byt l) : ∀ (n i : Nat), (bs w).drop i = sgs l ++ [34] → w.size ≤ i + n → dq w n i = (l, [], true) := by
  induction l with
  | nil =>
    intro n i hd hn
    have hi : i < w.size := by
      by_cases h : i < w.size
      · exact h
      · rw [drop_end w i (by omega)] at hd; cases hd
    obtain ⟨n, rfl⟩ : ∃ m, n = m + 1 := ⟨n - 1, by omega⟩
    rw [drop_bt w i hi] at hd
    have h34 : bt w (i : Int) = 34 := (List.cons.inj hd).1
    rw [dq, if_pos hi, if_pos h34]
  | cons c t ih =>
    intro n i hd hn
    have ht : Byt t := fun x hx => hl x (List.mem_cons_of_mem _ hx)
    have hc := hl c (List.mem_cons_self ..)
    have hi : i < w.size := by
      by_cases h : i < w.size
      · exact h
      · rw [drop_end w i (by omega)] at hd; simp at hd
    obtain ⟨n, rfl⟩ : ∃ m, n = m + 1 := ⟨n - 1, by omega⟩
    have hu : bs (w.extract i w.size) = sg c ++ (sgs t ++ [34]) := by rw [bs_drop, hd, sgs, List.append_assoc]
    have hd2 : bt w (i : Int) :: (bs w).drop (i + 1) = sg c ++ (sgs t ++ [34]) := by rw [← drop_bt w i hi, hd, sgs, List.append_assoc]
    have step (e : ByteArray) (m : Nat) (he : esc (w.extract i w.size) = (e, (m : Int))) (hm : m ≠ 0) (hm2 : (sg c).length = m) (hs : ∃ r, sg c = 92 :: r) (hb : bs e = [c]) : dq w (n + 1) i = (c :: t, [], true) := by
      obtain ⟨r, hr⟩ := hs
      rw [hr] at hd2
      have h92 : bt w (i : Int) = 92 := (List.cons.inj hd2).1
      have hdrop : (bs w).drop (i + m) = sgs t ++ [34] := by
        rw [← List.drop_drop, hd, sgs, List.append_assoc, ← hm2, List.drop_left]
      rw [dq, if_pos hi, if_neg (by omega), he]
      simp only
      rw [if_neg (by omega), Int.toNat_natCast, ih ht n (i + m) hdrop (by omega), hb]
      rfl
    by_cases a : c = 34 ∨ c = 92
    · have hg : sg c = [92, c] := by unfold sg; rw [if_pos a]
      have hs1 : simp1 c = some (Utf8.encode c) := by
        rcases a with rfl | rfl
        · rfl
        · rfl
      exact step _ 2 (esc_two _ c _ _ (by rw [hu, hg]; rfl) hs1) (by decide) (by rw [hg]; rfl) ⟨_, hg⟩ (enc_bs c hc.1 (by omega))
    by_cases b : c = 0
    · subst b
      exact step _ 2 (esc_two _ 48 _ _ hu rfl) (by decide) rfl ⟨_, rfl⟩ rfl
    by_cases d9 : c = 9
    · subst d9
      exact step _ 2 (esc_two _ 116 _ _ hu rfl) (by decide) rfl ⟨_, rfl⟩ rfl
    by_cases d10 : c = 10
    · subst d10
      exact step _ 2 (esc_two _ 110 _ _ hu rfl) (by decide) rfl ⟨_, rfl⟩ rfl
    by_cases d13 : c = 13
    · subst d13
      exact step _ 2 (esc_two _ 114 _ _ hu rfl) (by decide) rfl ⟨_, rfl⟩ rfl
    by_cases e : c < 32
    · have hg : sg c = [92, 120, hx (c / 16), hx (c % 16)] := by unfold sg; rw [if_neg a, if_neg b, if_neg d9, if_neg d10, if_neg d13, if_pos e]
      exact step _ 4 (esc_hex _ c _ hc.1 e (by rw [hu, hg]; rfl)) (by decide) (by rw [hg]; rfl) ⟨_, hg⟩ (enc_bs c hc.1 (by omega))
    · have hg : sg c = [c] := by unfold sg; rw [if_neg a, if_neg b, if_neg d9, if_neg d10, if_neg d13, if_neg e]
      rw [hg] at hd2
      have hcc : bt w (i : Int) = c := (List.cons.inj hd2).1
      have hne : (esc (w.extract i w.size)).2 = 0 := (esc_cases _).resolve_right fun h => by
        have := h.2.2.2
        rw [bt_tail w i hi] at this
        omega
      rw [dq, if_pos hi, if_neg (by omega), if_pos hne, ih ht n (i + 1) (List.cons.inj hd2).2 (by omega), hcc]
      simp only
      rw [if_neg (by omega)]
theorem wrt_bs (s : ByteArray) : bs (wrt s) = 34 :: (sgs (bs s) ++ [34]) :=
  bs_nums _ (Byt.cons (by omega) (by omega) ((sgs_byt _ (bs_byt s)).append (byt1 (by omega))))
theorem wrt_size (s : ByteArray) : (wrt s).size ≤ 4 * s.size + 2 := by
  have := bs_size _ _ (wrt_bs s)
  have h2 := sgs_len _ (bs_byt s)
  rw [bs_len] at h2
  rw [this, List.length_cons, List.length_append]
  simp only [List.length_cons, List.length_nil]
  omega
theorem read_wrt (s : ByteArray) : qt 17 (wrt s) = (s, [], true) := by
  have hz := bs_size _ _ (wrt_bs s)
  simp only [List.length_cons] at hz
  have := read_back (wrt s) (bs s) (bs_byt s) (wrt s).size 1 (by rw [wrt_bs]; rfl) (by omega)
  unfold qt
  rw [if_neg (by omega), if_neg (by decide), if_neg (by decide), if_pos rfl, this, nums_bs]
end Go.Proofs.Ytabdoommjdgogaa.Pure
