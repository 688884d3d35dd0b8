/- RunesJoin: bytes that end with a whole sign, and others behind them, have the bad places of both. For every input. -/
import Derived.Test.YteomjicmlaglbaaT7
import Derived.Test.YteomjicmlaglbaaQLawRunesJoin
namespace Go.Proofs.Yteomjicmlaglbaa.Pure
open Go.RowKit Go.Proofs.Yteomjicmlaglbaa.Q Go.Proofs.YteomjicmlaglbaaW.PrintWords Go.Proofs.YteomjicmlaglbaaW.PrintLast
set_option linter.unusedVariables false
set_option linter.unusedSimpArgs false
theorem bd_shift (c : Int) : ∀ (f : Nat) (l : List Int) (a : Int), bd f l (a + c) = (bd f l a).map (· + c)
  | 0, l, a => by simp [bd]
  | f + 1, l, a => by
    have ih := bd_shift c f (l.drop (wd l)) (a + wd l)
    rw [show a + (wd l : Int) + c = a + c + (wd l : Int) by omega] at ih
    by_cases h : l = []
    · rw [h, bd_nil, bd_nil]; rfl
    · simp only [bd]
      by_cases g : (nx l).1 < 0
      · simp [h, g, ih]
      · simp [h, g, ih]
theorem bd_within : ∀ (f : Nat) (l : List Int) (a : Int), Byt l → ∀ x ∈ bd f l a, a ≤ x ∧ x ≤ a + 4 * f
  | 0, l, a, hb, x, hx => by simp [bd] at hx
  | f + 1, l, a, hb, x, hx => by
    by_cases h : l = []
    · rw [h, bd_nil] at hx; cases hx
    · have hw := wd_fine l hb h
      have ih := bd_within f (l.drop (wd l)) (a + wd l) (hb.drop _)
      simp only [bd] at hx
      by_cases g : (nx l).1 < 0
      · simp [h, g] at hx
        rcases hx with e | e
        · omega
        · have := ih x e; omega
      · simp [h, g] at hx
        have := ih x hx
        omega
theorem rd_map (l : List Int) (c : Int) (i : Nat) (h : i < l.length) : rd (l.map (· + c)) (i : Int) = rd l (i : Int) + c := by
  unfold Go.Proofs.YteomjicmlaglbaaW.PrintWords.rd
  rw [Int.toNat_natCast, List.getD_eq_getElem?_getD, List.getD_eq_getElem?_getD, List.getElem?_map, List.getElem?_eq_getElem h]
  rfl
theorem rd_in (l : List Int) (i : Nat) (h : i < l.length) : rd l (i : Int) ∈ l := by
  unfold Go.Proofs.YteomjicmlaglbaaW.PrintWords.rd
  rw [Int.toNat_natCast, List.getD_eq_getElem?_getD, List.getElem?_eq_getElem h]
  exact List.getElem_mem _
theorem join_end (rs b : List Int) (hb : Byt b) (hbl : b.length ≤ 60) (hrs : rs.length ≤ 20) (s : ByteArray) (hs : bytesOf s = cat rs) (d : Nat) : ∀ (k i : Nat), i + d = (bads b).length → d + 5 < k →
    correctorlaw1_RunesJoin.l1 k b s ((bads b).map (· + ((cat rs).length : Int))) (bads b) (i : Int) = some true := by
  have hcl := cat_len rs
  have hsz : s.size = (cat rs).length := by rw [← bytesOf_length, hs]
  have hB : (bads b).length ≤ b.length := bd_len _ _ _
  induction d with
  | zero =>
    intro k i hi hk
    obtain ⟨k, rfl⟩ : ∃ m, k = m + 1 := ⟨k - 1, by omega⟩
    have s1 : signs (cat rs ++ b) = rs.length + signs b := sg_cat rs b hb
    have s2 : signs (cat rs) = rs.length := by
      have := sg_cat rs [] Byt.nil
      rw [List.append_nil] at this
      show sg (cat rs).length (cat rs) = _
      rw [this]
      simp [sg_nil]
    have hsg := signs_le b
    rw [correctorlaw1_RunesJoin.l1, if_neg (by rw [List.length_map]; omega), if_pos (by omega), Option.bind_some, hs, if_pos (by omega), count_eq _ ((cat_byt rs).append hb), Option.bind_some, count_eq _ (cat_byt rs), Option.bind_some, count_eq _ hb, Option.bind_some, s1, s2, w64 (by omega) (by omega)]
    simp
  | succ d ih =>
    intro k i hi hk
    obtain ⟨k, rfl⟩ : ∃ m, k = m + 1 := ⟨k - 1, by omega⟩
    have hr := bd_within b.length b 0 hb _ (rd_in (bads b) i (by omega))
    rw [correctorlaw1_RunesJoin.l1, if_pos (by rw [List.length_map]; omega), if_pos (by omega), if_pos (by omega), rd_map _ _ i (by omega), w64 (by omega) (by omega), hsz, if_pos rfl, w64 (by omega) (by omega), show (i : Int) + 1 = ((i + 1 : Nat) : Int) by omega]
    exact ih k (i + 1) (by omega) (by omega)
theorem join_lay (l0 b : List Int) (hl : l0.length ≤ 20) (hb : Byt b) (hbl : b.length ≤ 60) (d : Nat) : ∀ (k n : Nat) (s : ByteArray), n ≤ l0.length → l0.length - n = d → d + 500 < k → bytesOf s = cat (l0.take n) →
    correctorlaw1_RunesJoin.l0 k l0 b s (n : Int) = some true := by
  induction d with
  | zero =>
    intro k n s hn hd hk hs
    obtain ⟨k, rfl⟩ : ∃ m, k = m + 1 := ⟨k - 1, by omega⟩
    have h1 := cat_len (l0.take n)
    have h2 : (l0.take n).length ≤ 20 := by rw [List.length_take]; omega
    have h3 : s.size ≤ 100 := by rw [← bytesOf_length, hs]; omega
    have hB : (bads b).length ≤ b.length := bd_len _ _ _
    have hlen : (cat (l0.take n) ++ b).length = (cat (l0.take n)).length + b.length := List.length_append
    have hbad : bads (cat (l0.take n) ++ b) = (bads b).map (· + ((cat (l0.take n)).length : Int)) := by
      unfold bads
      rw [bd_cat (l0.take n) b hb 0, bd_shift]
    rw [correctorlaw1_RunesJoin.l0, if_neg (by omega), if_pos (by omega), Option.bind_some, hs, if_pos (by omega), bad_eq _ ((cat_byt _).append hb) (by omega) k (by omega), Option.bind_some, bad_eq _ hb (by omega) k (by omega), Option.bind_some, hbad, if_pos (by rw [List.length_map])]
    exact join_end (l0.take n) b hb hbl h2 s hs (bads b).length k 0 (by omega) (by omega)
  | succ d ih =>
    intro k n s hn hd hk hs
    obtain ⟨k, rfl⟩ : ∃ m, k = m + 1 := ⟨k - 1, by omega⟩
    have h1 := cat_len (l0.take n)
    have h2 : (l0.take n).length ≤ 20 := by rw [List.length_take]; omega
    have h3 : s.size ≤ 100 := by rw [← bytesOf_length, hs]; omega
    have h4 := (wr_len (fx (rd l0 (n : Int)))).2
    have h5 : (Utf8.encode (rd l0 (n : Int))).size ≤ 4 := by rw [← bytesOf_length, bo_encode]; exact h4
    rw [correctorlaw1_RunesJoin.l0, if_pos (by omega), if_pos (by omega), if_pos (by omega), w64 (by omega) (by omega), show (n : Int) + 1 = ((n + 1 : Nat) : Int) by omega]
    refine ih k (n + 1) _ (by omega) (by omega) (by omega) ?_
    have ht : l0.take (n + 1) = l0.take n ++ [rd l0 (n : Int)] := by
      rw [List.take_succ_eq_append_getElem (by omega)]
      congr 2
      unfold Go.Proofs.YteomjicmlaglbaaW.PrintWords.rd
      rw [Int.toNat_natCast, List.getD_eq_getElem?_getD, List.getElem?_eq_getElem (by omega)]
      rfl
    rw [bo_append, hs, bo_encode, ht, cat_app]
    simp [cat]
theorem RunesJoin : correctorlaw1_RunesJoin.Pure := by
  intro l0 l1 _ _ _ _ _ hw
  have hb : Byt l1 := Byt.of_wf hw
  obtain ⟨K, hK⟩ : ∃ K, 1000 < K := ⟨1001, by omega⟩
  refine ⟨K, ?_⟩
  obtain ⟨K, rfl⟩ : ∃ m, K = m + 1 := ⟨K - 1, by omega⟩
  unfold correctorlaw1_RunesJoin.f
  rw [known1, Option.bind_some, if_pos rfl]
  by_cases c : (l0.length : Int) > 20
  · rw [if_pos c, correctorlaw1_RunesJoin.j0, if_pos rfl]
  · rw [if_neg c, correctorlaw1_RunesJoin.j0]
    by_cases d : (l1.length : Int) > 60
    · rw [if_pos (decide_eq_true d)]
    · rw [if_neg (by simpa using d)]
      exact join_lay l0 l1 (by omega) hb (by omega) l0.length K 0 _ (by omega) (by omega) (by omega) rfl
end Go.Proofs.Yteomjicmlaglbaa.Pure
