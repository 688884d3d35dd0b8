/- QuoteSingle: a text, each of its signs ' written twice, is read as it was. For every input. -/
import Derived.Test.YtabdoommjdgogaaD3
import Derived.Test.YtabdoommjdgogaaQLawQuoteSingle
namespace Go.Proofs.Ytabdoommjdgogaa.Pure
open Go.RowKit Go.Proofs.Ytabdoommjdgogaa.Q Go.Proofs.YtabdoommjdgogaaW.PrintWords Go.Proofs.YtabdoommjdgogaaW.PrintLast
set_option linter.unusedVariables false
set_option linter.unusedSimpArgs false
/-- Each sign ' twice. -/
def twice : List Int → List Int
  | [] => []
  | c :: t => if c = 39 then 39 :: 39 :: twice t else c :: twice t
theorem twice_len (l : List Int) : (twice l).length ≤ 2 * l.length := by
  induction l with
  | nil => exact Nat.le_refl _
  | cons c t ih =>
    rw [twice]
    split
    all_goals (simp only [List.length_cons]; omega)
theorem sq_twice (l : List Int) : sq (twice l ++ [39]) = (l, true) ∧ sq (twice l) = (l, false) := by
  induction l with
  | nil => exact ⟨rfl, rfl⟩
  | cons c t ih =>
    rw [twice]
    by_cases h : c = 39
    · rw [if_pos h, List.cons_append, List.cons_append, sq_two, sq_two, ih.1, ih.2, h]
      exact ⟨rfl, rfl⟩
    · rw [if_neg h, List.cons_append, sq_other _ _ h, sq_other _ _ h, ih.1, ih.2]
      exact ⟨rfl, rfl⟩
theorem qt_single (w : ByteArray) (l : List Int) (h : bs w = 39 :: l) : qt 16 w = (strOfNums (sq l).1, [], (sq l).2) := by
  have := bs_size _ _ h
  unfold qt
  rw [if_neg (by rw [this]; simp), if_neg (by decide), if_pos rfl, h]
  rfl
theorem single_loop (s : ByteArray) (hs : s.size ≤ 60) (d : Nat) : ∀ (k n : Nat) (w : ByteArray) (l : List Int), n + d = s.size → 1000 + d < k → bs w = 39 :: l → w.size ≤ 2 * n + 1 → l ++ twice ((bs s).drop n) = twice (bs s) → correctorlaw7_QuoteSingle.l0 k s w (n : Int) = some true := by
  induction d with
  | zero =>
    intro k n w l hn hk hw hz hl
    obtain ⟨k, rfl⟩ : ∃ m, k = m + 1 := ⟨k - 1, by omega⟩
    rw [drop_end s n (by omega)] at hl
    have hl2 : l = twice (bs s) := by rw [← hl]; simp [twice]
    have hq := sq_twice (bs s)
    rw [← hl2] at hq
    have hw2 : bs (w ++ (⟨#[39]⟩ : ByteArray)) = 39 :: (l ++ [39]) := by rw [bs_append, hw]; rfl
    have hz2 : (w ++ (⟨#[39]⟩ : ByteArray)).size = w.size + 1 := by rw [ByteArray.size_append]; rfl
    have q1 := qt_single _ _ hw2
    have q2 := qt_single _ _ hw
    rw [hq.1] at q1
    rw [hq.2] at q2
    simp only [nums_bs] at q1 q2
    rw [correctorlaw7_QuoteSingle.l0, if_neg (by omega), if_pos (by omega), text_eq k 16 _ (by omega) (by omega), Option.bind_some, text_eq k 16 _ (by omega) (by omega), Option.bind_some, q1, q2]
    simp
  | succ d ih =>
    intro k n w l hn hk hw hz hl
    obtain ⟨k, rfl⟩ : ∃ m, k = m + 1 := ⟨k - 1, by omega⟩
    have ho := bs_one s n (by omega)
    have hz3 := bs_size _ _ ho
    simp only [List.length_cons, List.length_nil] at hz3
    have hw2 : bs (w ++ s.extract n (n + 1)) = 39 :: (l ++ [bt s (n : Int)]) := by rw [bs_append, hw, ho]; rfl
    have hz2 : (w ++ s.extract n (n + 1)).size = w.size + 1 := by rw [ByteArray.size_append]; omega
    rw [drop_bt s n (by omega), twice] at hl
    rw [correctorlaw7_QuoteSingle.l0, w64 (x := (n : Int) + 1) (by omega) (by omega), show (n : Int) + 1 = ((n + 1 : Nat) : Int) by omega, if_pos (by omega), if_pos (by omega), if_pos (by omega), if_pos (by omega), Int.toNat_natCast, Int.toNat_natCast, if_pos (by omega)]
    by_cases c : bt s (n : Int) = 39
    · rw [if_pos c] at hl
      rw [if_pos c, if_pos (by omega)]
      have hz4 : ((w ++ s.extract n (n + 1)) ++ (⟨#[39]⟩ : ByteArray)).size = w.size + 2 := by rw [ByteArray.size_append, hz2]; rfl
      exact ih k (n + 1) _ (l ++ [39, 39]) (by omega) (by omega) (by rw [bs_append, hw2, c]; simp; rfl) (by omega) (by rw [List.append_assoc]; exact hl)
    · rw [if_neg c] at hl
      rw [if_neg c]
      exact ih k (n + 1) _ (l ++ [bt s (n : Int)]) (by omega) (by omega) hw2 (by omega) (by rw [List.append_assoc]; exact hl)
theorem QuoteSingle : correctorlaw7_QuoteSingle.Pure := by
  intro s _
  obtain ⟨K, hK⟩ : ∃ K, 3000 < K := ⟨3001, by omega⟩
  refine ⟨K, ?_⟩
  unfold correctorlaw7_QuoteSingle.f
  rw [known7 K (by omega), Option.bind_some, if_pos rfl]
  by_cases h : (s.size : Int) > 60
  · rw [if_pos h]
  rw [if_neg h]
  exact single_loop s (by omega) s.size K 0 ⟨#[39]⟩ [] (by omega) (by omega) rfl (by decide) (by simp)
end Go.Proofs.Ytabdoommjdgogaa.Pure
