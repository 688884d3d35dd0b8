/- QuoteTexts: any token's text says what the document says. For every input. -/
import Derived.Test.YtabdoommjdgogaaD3
import Derived.Test.YtabdoommjdgogaaQLawQuoteTexts
namespace Go.Proofs.Ytabdoommjdgogaa.Pure
open Go.RowKit Go.Proofs.Ytabdoommjdgogaa.Q Go.Proofs.YtabdoommjdgogaaW.PrintWords Go.Proofs.YtabdoommjdgogaaW.PrintLast
set_option linter.unusedVariables false
set_option linter.unusedSimpArgs false
theorem rdOf_mem (l : List ByteArray) (i : Nat) (h : i < l.length) : rdOf ByteArray.empty l (i : Int) ∈ l := by
  unfold Go.Proofs.YtabdoommjdgogaaW.PrintWords.rdOf
  rw [Int.toNat_natCast, List.getD_eq_getElem?_getD, List.getElem?_eq_getElem h]
  exact List.getElem_mem h
theorem texts_rows (rows : List ByteArray) (kinds : List Int) (hk4 : kinds.length = 4) (hr : rows.length ≤ 10) (hs : ∀ x ∈ rows, x.size ≤ 300) (d : Nat) : ∀ (k n : Nat), n + d = rows.length → 6 * d + 1010 < k → correctorlaw7_QuoteTexts.l1 k rows kinds (n : Int) = some true := by
  induction d with
  | zero =>
    intro k n hn hk
    obtain ⟨k, rfl⟩ : ∃ m, k = m + 1 := ⟨k - 1, by omega⟩
    rw [correctorlaw7_QuoteTexts.l1, if_neg (by omega)]
  | succ d ih =>
    intro k n hn hk
    obtain ⟨k, rfl⟩ : ∃ m, k = m + 1 := ⟨k - 1, by omega⟩
    rw [correctorlaw7_QuoteTexts.l1, if_pos (by omega)]
    have hx := hs _ (rdOf_mem rows n (by omega))
    have inner (e : Nat) : ∀ (k m : Nat), m + e = 4 → 6 * d + 1011 + e < k → correctorlaw7_QuoteTexts.l2 k rows kinds (n : Int) (m : Int) = some true := by
      induction e with
      | zero =>
        intro k m hm hk
        obtain ⟨k, rfl⟩ : ∃ m, k = m + 1 := ⟨k - 1, by omega⟩
        rw [correctorlaw7_QuoteTexts.l2, if_neg (by omega), w64 (by omega) (by omega), show (n : Int) + 1 = ((n + 1 : Nat) : Int) by omega]
        exact ih k (n + 1) (by omega) (by omega)
      | succ e ih2 =>
        intro k m hm hk
        obtain ⟨k, rfl⟩ : ∃ m, k = m + 1 := ⟨k - 1, by omega⟩
        rw [correctorlaw7_QuoteTexts.l2, if_pos (by omega), if_pos (by omega), if_pos (by omega), if_pos (by omega), if_pos (by omega)]
        generalize rdOf ByteArray.empty rows (n : Int) = s at *
        generalize rd kinds (m : Int) = a at *
        have hq := qt_bad a s
        rw [text_eq k a s (by omega) (by omega), Option.bind_some, reftext_eq k a s (by omega) (by omega), Option.bind_some, if_pos rfl, ints_eq k _ (by omega) (by omega), Option.bind_some, if_pos rfl, if_neg (by simp), w64 (by omega) (by omega), show (m : Int) + 1 = ((m + 1 : Nat) : Int) by omega]
        exact ih2 k (m + 1) (by omega) (by omega)
    exact inner 4 k 0 (by omega) (by omega)
theorem texts_join (k : Nat) (a0 : Int) (a1 t : ByteArray) (h1 : a1.size ≤ 100) (ht : t.size ≤ 200) (hk : 2000 < k) : correctorlaw7_QuoteTexts.j1 k a0 a1 t = some true := by
  obtain ⟨k, rfl⟩ : ∃ m, k = m + 1 := ⟨k - 1, by omega⟩
  have s1 (b : UInt8) (x : ByteArray) : ((⟨#[b]⟩ : ByteArray) ++ x).size = 1 + x.size := by rw [ByteArray.size_append]; rfl
  have s2 (b : UInt8) (x : ByteArray) : (x ++ (⟨#[b]⟩ : ByteArray)).size = x.size + 1 := by rw [ByteArray.size_append]; rfl
  rw [correctorlaw7_QuoteTexts.j1, if_pos (by omega), if_pos (by omega), if_pos (by rw [s1]; omega), if_pos (by rw [s1]; omega)]
  refine texts_rows _ _ rfl (by simp) ?_ 7 k 0 rfl (by omega)
  intro x hx
  simp only [List.mem_cons, List.not_mem_nil, or_false] at hx
  rcases hx with rfl | rfl | rfl | rfl | rfl | rfl | rfl
  all_goals (try simp only [s1, s2])
  all_goals omega
theorem bits_size : ∀ t : Nat, t < 11 → (rdOf ByteArray.empty ([(⟨#[39]⟩ : ByteArray), (⟨#[34]⟩ : ByteArray), (⟨#[92]⟩ : ByteArray), (⟨#[97]⟩ : ByteArray), (⟨#[39, 39]⟩ : ByteArray), (⟨#[92, 110]⟩ : ByteArray), (⟨#[92, 120, 52, 49]⟩ : ByteArray), (⟨#[92, 117, 48, 48, 101, 57]⟩ : ByteArray), (⟨#[32]⟩ : ByteArray), (⟨#[92, 113]⟩ : ByteArray), (⟨#[195, 169]⟩ : ByteArray)] : List ByteArray) (t : Int)).size ≤ 6 := by decide +kernel
theorem texts_loop (a0 : Int) (a1 : ByteArray) (l : List Int) (h1 : a1.size ≤ 100) (d : Nat) : ∀ (k n : Nat) (t : ByteArray), n + d = 20 → n ≤ l.length → 2100 + d < k → t.size ≤ 6 * n → correctorlaw7_QuoteTexts.l0 k a0 a1 l t (n : Int) = some true := by
  induction d with
  | zero =>
    intro k n t hn hl hk ht
    obtain ⟨k, rfl⟩ : ∃ m, k = m + 1 := ⟨k - 1, by omega⟩
    rw [correctorlaw7_QuoteTexts.l0]
    by_cases c : (n : Int) < (l.length : Int)
    · rw [if_pos c, if_neg (by omega)]
      exact texts_join k a0 a1 t h1 (by omega) (by omega)
    · rw [if_neg c]
      exact texts_join k a0 a1 t h1 (by omega) (by omega)
  | succ d ih =>
    intro k n t hn hl hk ht
    obtain ⟨k, rfl⟩ : ∃ m, k = m + 1 := ⟨k - 1, by omega⟩
    rw [correctorlaw7_QuoteTexts.l0]
    by_cases c : (n : Int) < (l.length : Int)
    · obtain ⟨j, hj, j0, j1⟩ := within7 (rd l (n : Int)) 11 (by decide) (by decide)
      obtain ⟨m, rfl⟩ : ∃ m : Nat, j = (m : Int) := ⟨j.toNat, by omega⟩
      have hb := bits_size m (by omega)
      rw [if_pos c, if_pos (by omega), Option.bind_some, if_pos (by omega), hj, Option.bind_some, if_pos (by omega), if_pos (by simp only [List.length_cons, List.length_nil]; omega), if_pos (by omega), w64 (by omega) (by omega), show (n : Int) + 1 = ((n + 1 : Nat) : Int) by omega]
      exact ih k (n + 1) _ (by omega) (by omega) (by omega) (by rw [ByteArray.size_append]; omega)
    · rw [if_neg c]
      exact texts_join k a0 a1 t h1 (by omega) (by omega)
theorem QuoteTexts : correctorlaw7_QuoteTexts.Pure := by
  intro a0 a1 l _ _ _ _ _
  obtain ⟨K, hK⟩ : ∃ K, 3000 < K := ⟨3001, by omega⟩
  refine ⟨K, ?_⟩
  unfold correctorlaw7_QuoteTexts.f
  rw [known7 K (by omega), Option.bind_some, if_pos rfl]
  by_cases h : (a1.size : Int) > 100
  · rw [if_pos h]
  rw [if_neg h]
  exact texts_loop a0 a1 l (by omega) 20 K 0 ⟨#[]⟩ (by omega) (by omega) (by omega) (by decide)
end Go.Proofs.Ytabdoommjdgogaa.Pure
