/- RunesText: of a text of the language's own signs none is bad, and there are as many as it ranges over. For every input. -/
import Derived.Test.YteomjicmlaglbaaT7
import Derived.Test.YteomjicmlaglbaaQLawRunesText
namespace Go.Proofs.Yteomjicmlaglbaa.Pure
open Go.RowKit Go.Proofs.Yteomjicmlaglbaa.Q Go.Proofs.YteomjicmlaglbaaW.PrintWords Go.Proofs.YteomjicmlaglbaaW.PrintLast
set_option linter.unusedVariables false
set_option linter.unusedSimpArgs false
theorem text_count (s : ByteArray) (hs : s.size ≤ 1000) (hbad : bads (bytesOf s) = []) (d : Nat) : ∀ (k p c : Nat), p ≤ s.size → s.size - p = d → d + 1200 < k → c + sg ((bytesOf s).drop p).length ((bytesOf s).drop p) = signs (bytesOf s) →
    correctorlaw1_RunesText.l1 k s (c : Int) s (p : Int) = some true := by
  have hl : (bytesOf s).length = s.size := bytesOf_length s
  have hsl := signs_le (bytesOf s)
  induction d using Nat.strongRecOn with
  | _ d ih =>
    intro k p c hp hd hk hc
    obtain ⟨k, rfl⟩ : ∃ m, k = m + 1 := ⟨k - 1, by omega⟩
    rw [correctorlaw1_RunesText.l1, if_pos (by omega)]
    by_cases h : p < s.size
    · have hne : (bytesOf s).drop p ≠ [] := drop_cons_ne (by omega)
      have hw := wd_fine ((bytesOf s).drop p) ((bo_byt s).drop p) hne
      have hdl : ((bytesOf s).drop p).length = (bytesOf s).length - p := List.length_drop
      rw [sg_step _ ((bo_byt s).drop p) hne, List.drop_drop] at hc
      rw [if_pos (by omega), w64 (by omega) (by omega), next_wd s p h, show (c : Int) + 1 = ((c + 1 : Nat) : Int) by omega]
      exact ih (s.size - (p + wd ((bytesOf s).drop p))) (by omega) k _ _ (by omega) rfl (by omega) (by omega)
    · have : p = s.size := by omega
      subst this
      rw [← hl, List.drop_length, sg_nil] at hc
      rw [if_neg (by omega), if_pos (by omega), bad_eq _ (bo_byt s) (by omega) k (by omega), Option.bind_some, hbad, if_pos (show ((([] : List Int).length : Nat) : Int) = 0 from rfl), count_eq _ (bo_byt s), Option.bind_some]
      have : signs (bytesOf s) = c := by omega
      rw [this]
      simp
theorem text_lay (l0 : List Int) (hl : l0.length ≤ 50) (d : Nat) : ∀ (k n : Nat) (s : ByteArray), n ≤ l0.length → l0.length - n = d → d + 3000 < k → bytesOf s = cat (l0.take n) →
    correctorlaw1_RunesText.l0 k l0 s (n : Int) = some true := by
  induction d with
  | zero =>
    intro k n s hn hd hk hs
    obtain ⟨k, rfl⟩ : ∃ m, k = m + 1 := ⟨k - 1, by omega⟩
    rw [correctorlaw1_RunesText.l0, if_neg (by omega)]
    have h1 := cat_len (l0.take n)
    have h2 : (l0.take n).length ≤ 50 := by rw [List.length_take]; omega
    have h3 : s.size ≤ 1000 := by rw [← bytesOf_length, hs]; omega
    have hb := bd_cat (l0.take n) [] Byt.nil 0
    rw [List.append_nil, bd_nil, ← hs] at hb
    exact text_count s h3 hb s.size k 0 0 (by omega) (by omega) (by omega) (by simp [signs])
  | succ d ih =>
    intro k n s hn hd hk hs
    obtain ⟨k, rfl⟩ : ∃ m, k = m + 1 := ⟨k - 1, by omega⟩
    have h1 := cat_len (l0.take n)
    have h2 : (l0.take n).length ≤ 50 := by rw [List.length_take]; omega
    have h3 : s.size ≤ 1000 := by rw [← bytesOf_length, hs]; omega
    have h4 := (wr_len (fx (rd l0 (n : Int)))).2
    have h5 : (Utf8.encode (rd l0 (n : Int))).size ≤ 4 := by rw [← bytesOf_length, bo_encode]; exact h4
    rw [correctorlaw1_RunesText.l0, if_pos (by omega), if_pos (by omega), if_pos (by omega), w64 (by omega) (by omega), show (n : Int) + 1 = ((n + 1 : Nat) : Int) by omega]
    refine ih k (n + 1) _ (by omega) (by omega) (by omega) ?_
    have ht : l0.take (n + 1) = l0.take n ++ [rd l0 (n : Int)] := by
      rw [List.take_succ_eq_append_getElem (by omega)]
      congr 2
      unfold Go.Proofs.YteomjicmlaglbaaW.PrintWords.rd
      rw [Int.toNat_natCast, List.getD_eq_getElem?_getD, List.getElem?_eq_getElem (by omega)]
      rfl
    rw [bo_append, hs, bo_encode, ht, cat_app]
    simp [cat]
theorem RunesText : correctorlaw1_RunesText.Pure := by
  intro l0 _ _ _
  obtain ⟨K, hK⟩ : ∃ K, 4000 < K := ⟨4001, by omega⟩
  refine ⟨K, ?_⟩
  unfold correctorlaw1_RunesText.f
  rw [known1, Option.bind_some, if_pos rfl]
  by_cases c : (l0.length : Int) > 50
  · rw [if_pos c]
  rw [if_neg c]
  exact text_lay l0 (by omega) l0.length K 0 _ (by omega) (by omega) (by omega) rfl
end Go.Proofs.Yteomjicmlaglbaa.Pure
