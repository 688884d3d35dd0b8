/- What a single-quoted text says: a plain law over lists, and that the program and the reference both answer it. -/
import Derived.Test.YtabdoommjdgogaaR1
import Derived.Test.YtabdoommjdgogaaQquote
import Derived.Test.YtabdoommjdgogaaQcorrectorref7
namespace Go.Proofs.Ytabdoommjdgogaa.Pure
open Go.RowKit Go.Proofs.Ytabdoommjdgogaa.Q Go.Proofs.YtabdoommjdgogaaW.PrintWords Go.Proofs.YtabdoommjdgogaaW.PrintLast
set_option linter.unusedVariables false
set_option linter.unusedSimpArgs false

/-- What follows the first sign of a text between signs '. -/
def sq : List Int → List Int × Bool
  | [] => ([], false)
  | [c] => if c = 39 then ([], true) else ([c], false)
  | c :: d :: t => if c = 39 then (if d = 39 then (39 :: (sq t).1, (sq t).2) else ([], true)) else (c :: (sq (d :: t)).1, (sq (d :: t)).2)
theorem sq_other (c : Int) (t : List Int) (h : c ≠ 39) : sq (c :: t) = (c :: (sq t).1, (sq t).2) := by
  cases t with
  | nil => simp [sq, h]
  | cons d t => rw [sq, if_neg h]
theorem sq_two (t : List Int) : sq (39 :: 39 :: t) = (39 :: (sq t).1, (sq t).2) := by rw [sq, if_pos rfl, if_pos rfl]
theorem sq_end (t : List Int) (h : t.head? ≠ some 39) : sq (39 :: t) = ([], true) := by
  cases t with
  | nil => rw [sq, if_pos rfl]
  | cons d t => rw [sq, if_pos rfl, if_neg (fun e => h (by rw [e]; rfl))]
theorem nums_bs (x : ByteArray) : strOfNums (bs x) = x := bs_inj (bs_nums _ (bs_byt x))
theorem nums_app (x : ByteArray) (l : List Int) (hl : Byt l) : strOfNums (bs x ++ l) = x ++ strOfNums l := bs_inj (by rw [bs_nums _ ((bs_byt x).append hl), bs_append, bs_nums _ hl])
theorem drop_bt (s : ByteArray) (i : Nat) (h : i < s.size) : (bs s).drop i = bt s (i : Int) :: (bs s).drop (i + 1) := by
  have hl : i < (bs s).length := by rw [bs_len]; exact h
  rw [List.drop_eq_getElem_cons hl]
  congr 1
  rw [bt_bs]
  unfold Go.Proofs.YtabdoommjdgogaaW.PrintWords.rd
  rw [Int.toNat_natCast, List.getD_eq_getElem?_getD, List.getElem?_eq_getElem hl]
  rfl
theorem drop_end (s : ByteArray) (i : Nat) (h : s.size ≤ i) : (bs s).drop i = [] := List.drop_eq_nil_of_le (by rw [bs_len]; exact h)
theorem bs_cut (s : ByteArray) (a b : Nat) : bs (s.extract a b) = ((bs s).drop a).take (b - a) := by
  unfold bs
  rw [ByteArray.data_extract, Array.toList_extract, List.extract_eq_take_drop, List.map_take, List.map_drop]
theorem bs_one (s : ByteArray) (i : Nat) (h : i < s.size) : bs (s.extract i (i + 1)) = [bt s (i : Int)] := by
  rw [bs_cut, drop_bt s i h, show i + 1 - i = 1 by omega]
  rfl
theorem bs_size (x : ByteArray) (l : List Int) (h : bs x = l) : x.size = l.length := by rw [← bs_len, h]
theorem bs_nil : bs (⟨#[]⟩ : ByteArray) = [] := rfl

/-! ### The two readings -/
theorem put_byte (x : ByteArray) (c : Int) (h0 : 0 ≤ c) (h1 : c ≤ 255) (hx : x.size ≤ 100000) : strings_Builder_WriteByte.f x c = some (none, x ++ strOfNums [c]) := by
  unfold strings_Builder_WriteByte.f
  rw [if_pos (by omega), if_pos h0, if_pos h1]
theorem put_text (x t : ByteArray) (hx : x.size ≤ 100000) (ht : t.size ≤ 100000) : strings_Builder_WriteString.f x t = some ((t.size : Int), none, x ++ t) := by
  unfold strings_Builder_WriteString.f
  rw [if_pos (by omega)]
theorem byt1 {c : Int} (h : 0 ≤ c ∧ c ≤ 255) : Byt [c] := Byt.cons h.1 h.2 Byt.nil
theorem tell_single (s : ByteArray) (hs : s.size ≤ 10000) (n : Nat) : ∀ (k i : Nat) (x : ByteArray), s.size ≤ i + n → 2 * n + 2 < k → i ≤ s.size + 1 → x.size ≤ i →
    quote_single_tell.l0 k s (i : Int) x = some (strOfNums (bs x ++ (sq ((bs s).drop i)).1), [], (sq ((bs s).drop i)).2) := by
  have done (k i : Nat) (x : ByteArray) (hk : 0 < k) (hi : s.size ≤ i) : quote_single_tell.l0 k s (i : Int) x = some (strOfNums (bs x ++ (sq ((bs s).drop i)).1), [], (sq ((bs s).drop i)).2) := by
    obtain ⟨k, rfl⟩ : ∃ m, k = m + 1 := ⟨k - 1, by omega⟩
    rw [quote_single_tell.l0, if_neg (by omega), drop_end s i hi]
    show some (x, [], false) = some (strOfNums (bs x ++ []), [], false)
    rw [List.append_nil, nums_bs]
  induction n using Nat.strongRecOn with
  | _ n ih =>
    intro k i x hn hk hi hx
    by_cases h : s.size ≤ i
    · exact done k i x (by omega) h
    have hr := bt_range s (i : Int)
    obtain ⟨k, rfl⟩ : ∃ m, k = m + 2 := ⟨k - 2, by omega⟩
    rw [quote_single_tell.l0, if_pos (by omega), if_pos (by omega), w64 (x := (i : Int) + 1) (by omega) (by omega), show (i : Int) + 1 = ((i + 1 : Nat) : Int) by omega, drop_bt s i (by omega)]
    by_cases c : bt s (i : Int) = 39
    · rw [if_pos c, c]
      by_cases d : i + 1 = s.size
      · rw [if_pos (by omega), quote_single_tell.j1, if_pos rfl, drop_end s (i + 1) (by omega)]
        show some (x, [], true) = some (strOfNums (bs x ++ []), [], true)
        rw [List.append_nil, nums_bs]
      rw [if_neg (by omega), if_pos (by omega), if_pos (by omega), quote_single_tell.j1, w64 (x := (i : Int) + 1) (by omega) (by omega), show (i : Int) + 1 = ((i + 1 : Nat) : Int) by omega, drop_bt s (i + 1) (by omega)]
      by_cases e : bt s ((i + 1 : Nat) : Int) = 39
      · rw [e, if_neg (by decide), if_pos (by omega), if_pos (by omega), put_byte _ _ (by omega) (by omega) (by omega)]
        rw [Option.bind_some]
        have hz : bs (x ++ strOfNums [39]) = bs x ++ [39] := by rw [bs_append, bs_nums _ (byt1 (by omega))]
        have hz2 : (x ++ strOfNums [39]).size = x.size + 1 := by rw [bs_size _ _ hz, List.length_append, bs_len]; rfl
        show quote_single_tell.l0 k s (wrap64 (((i + 1 : Nat) : Int) + 1)) (x ++ strOfNums [39]) = _
        rw [w64 (by omega) (by omega), show ((i + 1 : Nat) : Int) + 1 = ((i + 1 + 1 : Nat) : Int) by omega, ih (n - 2) (by omega) k (i + 1 + 1) _ (by omega) (by omega) (by omega) (by omega), sq_two, hz, List.append_assoc]
        rfl
      · rw [if_pos (by simpa using e), sq_end _ (by simpa using e)]
        show some (x, [], true) = some (strOfNums (bs x ++ []), [], true)
        rw [List.append_nil, nums_bs]
    · rw [if_neg c, put_byte _ _ hr.1 hr.2 (by omega), Option.bind_some]
      have hz : bs (x ++ strOfNums [bt s (i : Int)]) = bs x ++ [bt s (i : Int)] := by rw [bs_append, bs_nums _ (byt1 hr)]
      have hz2 : (x ++ strOfNums [bt s (i : Int)]).size = x.size + 1 := by rw [bs_size _ _ hz, List.length_append, bs_len]; rfl
      show quote_single_tell.l0 (k + 1) s ((i + 1 : Nat) : Int) (x ++ strOfNums [bt s (i : Int)]) = _
      rw [ih (n - 1) (by omega) (k + 1) (i + 1) _ (by omega) (by omega) (by omega) (by omega), hz, sq_other _ _ c, List.append_assoc]
      rfl
theorem ref_single (s : ByteArray) (hs : s.size ≤ 10000) (n : Nat) : ∀ (k i : Nat) (x : ByteArray), s.size ≤ i + n → 2 * n + 2 < k → i ≤ s.size + 1 → x.size ≤ i →
    correctorref7_single.l0 k s x (i : Int) = some (strOfNums (bs x ++ (sq ((bs s).drop i)).1), (sq ((bs s).drop i)).2) := by
  have done (k i : Nat) (x : ByteArray) (hk : 0 < k) (hi : s.size ≤ i) : correctorref7_single.l0 k s x (i : Int) = some (strOfNums (bs x ++ (sq ((bs s).drop i)).1), (sq ((bs s).drop i)).2) := by
    obtain ⟨k, rfl⟩ : ∃ m, k = m + 1 := ⟨k - 1, by omega⟩
    rw [correctorref7_single.l0, if_neg (by omega), drop_end s i hi]
    show some (x, false) = some (strOfNums (bs x ++ []), false)
    rw [List.append_nil, nums_bs]
  induction n using Nat.strongRecOn with
  | _ n ih =>
    intro k i x hn hk hi hx
    by_cases h : s.size ≤ i
    · exact done k i x (by omega) h
    have hr := bt_range s (i : Int)
    obtain ⟨k, rfl⟩ : ∃ m, k = m + 2 := ⟨k - 2, by omega⟩
    rw [correctorref7_single.l0, if_pos (by omega), if_pos (by omega), w64 (x := (i : Int) + 1) (by omega) (by omega), show (i : Int) + 1 = ((i + 1 : Nat) : Int) by omega, drop_bt s i (by omega)]
    by_cases c : bt s (i : Int) = 39
    · rw [if_pos c, c]
      by_cases d : i + 1 = s.size
      · rw [if_pos (by omega), drop_end s (i + 1) (by omega)]
        show some (x, true) = some (strOfNums (bs x ++ []), true)
        rw [List.append_nil, nums_bs]
      rw [if_neg (by omega), if_pos (by omega), if_pos (by omega), drop_bt s (i + 1) (by omega)]
      by_cases e : bt s ((i + 1 : Nat) : Int) = 39
      · rw [if_pos e, e, if_pos (by omega)]
        have hz : bs (x ++ (⟨#[39]⟩ : ByteArray)) = bs x ++ [39] := by rw [bs_append]; rfl
        have hz2 : (x ++ (⟨#[39]⟩ : ByteArray)).size = x.size + 1 := by rw [bs_size _ _ hz, List.length_append, bs_len]; rfl
        rw [w64 (by omega) (by omega), show ((i + 1 : Nat) : Int) + 1 = ((i + 1 + 1 : Nat) : Int) by omega, ih (n - 2) (by omega) (k + 1) (i + 1 + 1) _ (by omega) (by omega) (by omega) (by omega), sq_two, hz, List.append_assoc]
        rfl
      · rw [if_neg e, sq_end _ (by simpa using e)]
        show some (x, true) = some (strOfNums (bs x ++ []), true)
        rw [List.append_nil, nums_bs]
    · have hz : bs (x ++ s.extract i (i + 1)) = bs x ++ [bt s (i : Int)] := by rw [bs_append, bs_one s i (by omega)]
      have hz2 := bs_size _ _ hz
      have hz3 := bs_size _ _ (bs_one s i (by omega))
      rw [List.length_append, bs_len] at hz2
      simp only [List.length_cons, List.length_nil] at hz2 hz3
      rw [if_neg c, if_pos (by omega), if_pos (by omega), Int.toNat_natCast, Int.toNat_natCast, if_pos (by omega), ih (n - 1) (by omega) (k + 1) (i + 1) _ (by omega) (by omega) (by omega) (by omega), hz, sq_other _ _ c, List.append_assoc]
      rfl
end Go.Proofs.Ytabdoommjdgogaa.Pure
