/- QuoteToken: what was written is one token, behind a dash, up to the row's end. For every input. -/
import Derived.Test.YtabdoommjdgogaaU1
import Derived.Test.YtabdoommjdgogaaDM
import Derived.Test.YtabdoommjdgogaaQLawQuoteToken
namespace Go.Proofs.Ytabdoommjdgogaa.Same
open Go.RowKit Go.Proofs.Ytabdoommjdgogaa.Q Go.Proofs.YtabdoommjdgogaaW.PrintWords Go.Proofs.YtabdoommjdgogaaW.PrintLast Go.Proofs.YtabdoommjdgogaaW.PrintMore Go.Proofs.Ytabdoommjdgogaa.Sc Go.Proofs.Ytabdoommjdgogaa.Rf
set_option linter.unusedVariables false
set_option linter.unusedSimpArgs false
theorem sgs_no : ∀ (l : List Int), (∀ x ∈ l, 0 ≤ x ∧ x ≤ 255) → ∀ x ∈ Go.Proofs.Ytabdoommjdgogaa.Pure.sgs l, x ≠ 10 ∧ x ≠ 13 ∧ 0 ≤ x ∧ x ≤ 255
  | [], _, x, h => by cases h
  | c :: l, hl, x, h => by
    have hc := hl c (by simp)
    rw [Go.Proofs.Ytabdoommjdgogaa.Pure.sgs] at h
    rcases List.mem_append.mp h with h | h
    · have hx1 : ∀ d : Int, 0 ≤ d → d < 16 → 48 ≤ Go.Proofs.Ytabdoommjdgogaa.Pure.hx d ∧ Go.Proofs.Ytabdoommjdgogaa.Pure.hx d ≤ 102 := fun d g1 g2 => by unfold Go.Proofs.Ytabdoommjdgogaa.Pure.hx; split <;> omega
      have q1 := hx1 (c % 16) (by omega) (by omega)
      unfold Go.Proofs.Ytabdoommjdgogaa.Pure.sg at h
      repeat' split at h
      all_goals simp only [List.mem_cons, List.not_mem_nil, or_false] at h
      · omega
      · omega
      · omega
      · omega
      · omega
      · have q2 := hx1 (c / 16) (by omega) (by omega)
        omega
      · omega
    · exact sgs_no l (fun y hy => hl y (by simp [hy])) x h
theorem drop_head {b : List Int} {i : Nat} {c : Int} {t : List Int} (h : b.drop i = c :: t) : rd b (i : Int) = c ∧ b.drop (i + 1) = t := by
  have hi : i < b.length := by
    rcases Nat.lt_or_ge i b.length with g | g
    · exact g
    · rw [List.drop_eq_nil_of_le g] at h; cases h
  rw [List.drop_eq_getElem_cons hi] at h
  obtain ⟨h1, h2⟩ := List.cons.inj h
  refine ⟨?_, h2⟩
  unfold Go.Proofs.YtabdoommjdgogaaW.PrintWords.rd
  rw [List.getD_eq_getElem?_getD, Int.toNat_natCast, List.getElem?_eq_getElem hi]
  exact h1
theorem dbl_skip {b : List Int} {e : Int} {i k : Nat} {c : Int} {t : List Int} (h : b.drop i = c :: t) (h1 : (i : Int) < e) (n34 : c ≠ 34) (n92 : c ≠ 92) : dbl b e (k + 1) (i : Int) = dbl b e k ((i + 1 : Nat) : Int) := by
  have := (drop_head h).1
  simp only [dbl]
  rw [if_pos h1, this, if_neg n34, if_neg n92]
  rfl
theorem dbl_esc {b : List Int} {e : Int} {i k : Nat} {t : List Int} (h : b.drop i = 92 :: t) (h1 : (i : Int) < e) : dbl b e (k + 1) (i : Int) = dbl b e k ((i + 2 : Nat) : Int) := by
  have := (drop_head h).1
  simp only [dbl]
  rw [if_pos h1, this, if_neg (by decide), if_pos rfl]
  rfl
theorem dbl_go (b : List Int) (e : Int) (rest : List Int) : ∀ (l : List Int) (i k : Nat), (∀ x ∈ l, 0 ≤ x ∧ x ≤ 255) → b.drop i = Go.Proofs.Ytabdoommjdgogaa.Pure.sgs l ++ (34 :: rest) → (i : Int) + (Go.Proofs.Ytabdoommjdgogaa.Pure.sgs l).length < e → e - i ≤ (k : Int) → dbl b e k (i : Int) = (i : Int) + (Go.Proofs.Ytabdoommjdgogaa.Pure.sgs l).length + 1
  | [], i, k, hl, hd, he, hk => by
    obtain ⟨k, rfl⟩ : ∃ k', k = k' + 1 := ⟨k - 1, by omega⟩
    have hd' : b.drop i = 34 :: rest := hd
    have h0 : ((Go.Proofs.Ytabdoommjdgogaa.Pure.sgs []).length : Int) = 0 := rfl
    have := (drop_head hd').1
    simp only [dbl]
    rw [if_pos (by omega), this, if_pos rfl, h0]
    omega
  | c :: l, i, k, hl, hd, he, hk => by
    have hc := hl c (by simp)
    have hl' : ∀ x ∈ l, 0 ≤ x ∧ x ≤ 255 := fun y hy => hl y (by simp [hy])
    have hs : Go.Proofs.Ytabdoommjdgogaa.Pure.sgs (c :: l) = Go.Proofs.Ytabdoommjdgogaa.Pure.sg c ++ Go.Proofs.Ytabdoommjdgogaa.Pure.sgs l := rfl
    rw [hs, List.length_append] at he ⊢
    rw [hs, List.append_assoc] at hd
    have hx1 : ∀ d : Int, 0 ≤ d → d < 16 → 48 ≤ Go.Proofs.Ytabdoommjdgogaa.Pure.hx d ∧ Go.Proofs.Ytabdoommjdgogaa.Pure.hx d ≤ 102 ∧ Go.Proofs.Ytabdoommjdgogaa.Pure.hx d ≠ 92 := fun d g1 g2 => by unfold Go.Proofs.Ytabdoommjdgogaa.Pure.hx; split <;> omega
    have two : ∀ y : Int, Go.Proofs.Ytabdoommjdgogaa.Pure.sg c = [92, y] → dbl b e k (i : Int) = (i : Int) + (((Go.Proofs.Ytabdoommjdgogaa.Pure.sg c).length + (Go.Proofs.Ytabdoommjdgogaa.Pure.sgs l).length : Nat) : Int) + 1 := by
      intro y hy
      rw [hy] at hd he ⊢
      have hd1 : b.drop i = 92 :: y :: (Go.Proofs.Ytabdoommjdgogaa.Pure.sgs l ++ (34 :: rest)) := hd
      have hd2 := (drop_head (drop_head hd1).2).2
      have hlen : ([92, y] : List Int).length = 2 := rfl
      rw [hlen] at he ⊢
      obtain ⟨k, rfl⟩ : ∃ k', k = k' + 1 := ⟨k - 1, by omega⟩
      rw [dbl_esc hd1 (by omega), dbl_go b e rest l (i + 2) k hl' hd2 (by omega) (by omega)]
      omega
    by_cases c1 : c = 34 ∨ c = 92
    · exact two c (by unfold Go.Proofs.Ytabdoommjdgogaa.Pure.sg; rw [if_pos c1])
    · by_cases c2 : c = 0
      · exact two 48 (by unfold Go.Proofs.Ytabdoommjdgogaa.Pure.sg; rw [if_neg c1, if_pos c2])
      · by_cases c3 : c = 9
        · exact two 116 (by unfold Go.Proofs.Ytabdoommjdgogaa.Pure.sg; rw [if_neg c1, if_neg c2, if_pos c3])
        · by_cases c4 : c = 10
          · exact two 110 (by unfold Go.Proofs.Ytabdoommjdgogaa.Pure.sg; rw [if_neg c1, if_neg c2, if_neg c3, if_pos c4])
          · by_cases c5 : c = 13
            · exact two 114 (by unfold Go.Proofs.Ytabdoommjdgogaa.Pure.sg; rw [if_neg c1, if_neg c2, if_neg c3, if_neg c4, if_pos c5])
            · by_cases c6 : c < 32
              · have hy : Go.Proofs.Ytabdoommjdgogaa.Pure.sg c = [92, 120, Go.Proofs.Ytabdoommjdgogaa.Pure.hx (c / 16), Go.Proofs.Ytabdoommjdgogaa.Pure.hx (c % 16)] := by
                  unfold Go.Proofs.Ytabdoommjdgogaa.Pure.sg
                  rw [if_neg c1, if_neg c2, if_neg c3, if_neg c4, if_neg c5, if_pos c6]
                rw [hy] at hd he ⊢
                have q1 := hx1 (c % 16) (by omega) (by omega)
                have q2 := hx1 (c / 16) (by omega) (by omega)
                have hd1 : b.drop i = 92 :: 120 :: Go.Proofs.Ytabdoommjdgogaa.Pure.hx (c / 16) :: Go.Proofs.Ytabdoommjdgogaa.Pure.hx (c % 16) :: (Go.Proofs.Ytabdoommjdgogaa.Pure.sgs l ++ (34 :: rest)) := hd
                have hd2 := (drop_head (drop_head hd1).2).2
                have hd3 := (drop_head hd2).2
                have hd4 := (drop_head hd3).2
                have hlen : ([92, 120, Go.Proofs.Ytabdoommjdgogaa.Pure.hx (c / 16), Go.Proofs.Ytabdoommjdgogaa.Pure.hx (c % 16)] : List Int).length = 4 := rfl
                rw [hlen] at he ⊢
                obtain ⟨k, rfl⟩ : ∃ k', k = k' + 3 := ⟨k - 3, by omega⟩
                rw [dbl_esc hd1 (by omega), dbl_skip hd2 (by omega) (by omega) (by omega), dbl_skip hd3 (by omega) (by omega) (by omega), dbl_go b e rest l (i + 2 + 1 + 1) k hl' hd4 (by omega) (by omega)]
                omega
              · have hy : Go.Proofs.Ytabdoommjdgogaa.Pure.sg c = [c] := by
                  unfold Go.Proofs.Ytabdoommjdgogaa.Pure.sg
                  rw [if_neg c1, if_neg c2, if_neg c3, if_neg c4, if_neg c5, if_neg c6]
                rw [hy] at hd he ⊢
                have hd1 : b.drop i = c :: (Go.Proofs.Ytabdoommjdgogaa.Pure.sgs l ++ (34 :: rest)) := hd
                have hd2 := (drop_head hd1).2
                have hlen : ([c] : List Int).length = 1 := rfl
                rw [hlen] at he ⊢
                obtain ⟨k, rfl⟩ : ∃ k', k = k' + 1 := ⟨k - 1, by omega⟩
                rw [dbl_skip hd1 (by omega) (fun h => c1 (.inl h)) (fun h => c1 (.inr h)), dbl_go b e rest l (i + 1) k hl' hd2 (by omega) (by omega)]
                omega
theorem quote_toks (l : List Int) (hl : ∀ x ∈ l, 0 ≤ x ∧ x ≤ 255) (hn : (Go.Proofs.Ytabdoommjdgogaa.Pure.sgs l).length ≤ 1000) : toksR ([45, 32] ++ (34 :: (Go.Proofs.Ytabdoommjdgogaa.Pure.sgs l ++ [34])) ++ [10]) =
    some [(⟨5, 0, 1⟩ : S39), ⟨3, 1, 2⟩, ⟨17, 2, (Go.Proofs.Ytabdoommjdgogaa.Pure.sgs l).length + 4⟩, ⟨1, (Go.Proofs.Ytabdoommjdgogaa.Pure.sgs l).length + 4, (Go.Proofs.Ytabdoommjdgogaa.Pure.sgs l).length + 5⟩] := by
  have hno := sgs_no l hl
  have hdr : ([45, 32] ++ (34 :: (Go.Proofs.Ytabdoommjdgogaa.Pure.sgs l ++ [34])) ++ [10]).drop 3 = Go.Proofs.Ytabdoommjdgogaa.Pure.sgs l ++ (34 :: [10]) := by simp
  have hlen : (([45, 32] ++ (34 :: (Go.Proofs.Ytabdoommjdgogaa.Pure.sgs l ++ [34])) ++ [10] : List Int).length : Int) = (Go.Proofs.Ytabdoommjdgogaa.Pure.sgs l).length + 5 := by simp; omega
  have r0 : rd ([45, 32] ++ (34 :: (Go.Proofs.Ytabdoommjdgogaa.Pure.sgs l ++ [34])) ++ [10]) 0 = 45 := rfl
  have r1 : rd ([45, 32] ++ (34 :: (Go.Proofs.Ytabdoommjdgogaa.Pure.sgs l ++ [34])) ++ [10]) 1 = 32 := rfl
  have r2 : rd ([45, 32] ++ (34 :: (Go.Proofs.Ytabdoommjdgogaa.Pure.sgs l ++ [34])) ++ [10]) 2 = 34 := rfl
  have rE : rd ([45, 32] ++ (34 :: (Go.Proofs.Ytabdoommjdgogaa.Pure.sgs l ++ [34])) ++ [10]) ((Go.Proofs.Ytabdoommjdgogaa.Pure.sgs l).length + 4) = 10 := by
    rw [rd_app_r' (n := (Go.Proofs.Ytabdoommjdgogaa.Pure.sgs l).length + 4) (by simp; omega) (Int.le_refl _), Int.sub_self]
    rfl
  have hmem : ∀ j : Int, 2 ≤ j → j < (Go.Proofs.Ytabdoommjdgogaa.Pure.sgs l).length + 4 → rd ([45, 32] ++ (34 :: (Go.Proofs.Ytabdoommjdgogaa.Pure.sgs l ++ [34])) ++ [10]) j ≠ 10 ∧ rd ([45, 32] ++ (34 :: (Go.Proofs.Ytabdoommjdgogaa.Pure.sgs l ++ [34])) ++ [10]) j ≠ 13 := by
    intro j g1 g2
    rw [List.append_assoc, rd_app_r' (n := 2) rfl g1, rd_app_l (by omega) (by simp; omega)]
    have hm : rd (34 :: (Go.Proofs.Ytabdoommjdgogaa.Pure.sgs l ++ [34])) (j - 2) ∈ (34 :: (Go.Proofs.Ytabdoommjdgogaa.Pure.sgs l ++ [34])) := by
      unfold Go.Proofs.YtabdoommjdgogaaW.PrintWords.rd
      rw [List.getD_eq_getElem?_getD, List.getElem?_eq_getElem (by simp; omega)]
      exact List.getElem_mem _
    rcases List.mem_cons.mp hm with h | h
    · rw [h]; decide
    · rcases List.mem_append.mp h with h | h
      · have := hno _ h; omega
      · rw [List.mem_singleton.mp h]; decide
  have hB : Go.Proofs.Ytabdoommjdgogaa.PuN.Byt ([45, 32] ++ (34 :: (Go.Proofs.Ytabdoommjdgogaa.Pure.sgs l ++ [34])) ++ [10]) := by
    intro x hx
    simp only [List.mem_append, List.mem_cons, List.not_mem_nil, or_false] at hx
    rcases hx with ((h | h) | (h | h | h)) | h
    · omega
    · omega
    · omega
    · have := hno x h; omega
    · omega
    · omega
  generalize hb : [45, 32] ++ (34 :: (Go.Proofs.Ytabdoommjdgogaa.Pure.sgs l ++ [34])) ++ [10] = b at *
  generalize hm : (Go.Proofs.Ytabdoommjdgogaa.Pure.sgs l).length = m at *
  -- a dash
  have hsp : spc b 1 = true := by
    unfold spc
    rw [r1]
    simp [Sc.blank]
  have hmk : ¬ markOf b rs0 > 0 := by
    have : markR b 0 = 0 := by
      unfold markR
      rw [ba_in (by omega) (by omega), if_pos (.inr (.inl (by show rd b 1 ≠ rd b 0; rw [r0, r1]; decide)))]
    unfold markOf
    rw [if_pos (show rs0.at_ = rs0.row from rfl)]
    show ¬ markR b 0 > 0
    omega
  have e0 : stepR b rs0 = addR 5 1 rs0 := by
    rw [stepR_word hmk (no_space (by show rd b 0 ≠ 13 ∧ rd b 0 ≠ 10 ∧ rd b 0 ≠ 32 ∧ rd b 0 ≠ 9 ∧ rd b 0 ≠ 35; omega)) (no_bracket (by show rd b 0 ≠ 91 ∧ rd b 0 ≠ 123 ∧ rd b 0 ≠ 93 ∧ rd b 0 ≠ 125 ∧ (rd b 0 ≠ 44 ∨ (0 : Int) ≤ 0); omega))]
    unfold wordS
    rw [if_pos ⟨r0, rfl, rfl, hsp⟩]
    rfl
  have f0 := (fine0 b).add 5 (e := 1) (by decide) (by omega)
  -- a blank
  have e1 : stepR b (addR 5 1 rs0) = addR 3 2 (addR 5 1 rs0) := by
    have hbk : blanks b 1 = 2 := by
      refine upto_runs (by omega) (.inr (by rw [r2]; decide)) (by omega) (fun j g1 g2 => ?_)
      rw [show j = 1 by omega, r1]
      rfl
    rw [step_blank (by decide) (by decide) r1]
    show addR 3 (blanks b 1) _ = _
    rw [hbk]
  have f1 := f0.add 3 (e := 2) (by decide) (by omega)
  -- the text
  have hln : line b 2 = (m : Int) + 4 := by
    refine upto_runs (by omega) (.inr ?_) (by omega) (fun j g1 g2 => ?_)
    · rw [brk_ten (by omega) rE]
      decide
    · have := hmem j g1 g2
      rw [brk_none this.2 this.1]
      decide
  have hdb : doubleR b 3 ((m : Int) + 4) = (m : Int) + 4 := by
    have := dbl_go b ((m : Int) + 4) [10] l 3 ((m : Int) + 4 - 3).toNat hl hdr (by rw [hm]; omega) (by omega)
    rw [hm] at this
    unfold doubleR
    show dbl b ((m : Int) + 4) _ ((3 : Nat) : Int) = _
    rw [this]
    omega
  have e2 : stepR b (addR 3 2 (addR 5 1 rs0)) = addR 17 ((m : Int) + 4) (addR 3 2 (addR 5 1 rs0)) := by
    rw [stepR_word (no_mark (by decide) (by show rd b 2 ≠ 45 ∧ rd b 2 ≠ 46; omega)) (no_space (by show rd b 2 ≠ 13 ∧ rd b 2 ≠ 10 ∧ rd b 2 ≠ 32 ∧ rd b 2 ≠ 9 ∧ rd b 2 ≠ 35; omega)) (no_bracket (by show rd b 2 ≠ 91 ∧ rd b 2 ≠ 123 ∧ rd b 2 ≠ 93 ∧ rd b 2 ≠ 125 ∧ (rd b 2 ≠ 44 ∨ (0 : Int) ≤ 0); omega))]
    have h2 : rd b (addR 3 2 (addR 5 1 rs0)).at_ = 34 := r2
    unfold wordS
    rw [if_neg (fun g => by have := g.1; omega), if_neg (by rw [colon_none (by omega)]; decide), if_neg (fun g => by have := g.1; omega), if_neg (fun g => by have := g.1; omega), if_neg (by omega), if_neg (by omega), if_pos h2]
    show addR 17 (mn (doubleR b 3 (line b 2)) (line b 2)) _ = _
    rw [hln, hdb, show mn ((m : Int) + 4) ((m : Int) + 4) = (m : Int) + 4 by unfold mn; split <;> rfl]
  have f2 := f1.add 17 (e := (m : Int) + 4) (by show (2 : Int) < _; omega) (by omega)
  -- the break
  have hbr := brk_ten (show ((m : Int) + 4) < (b.length : Int) by omega) rE
  have e3 : stepR b (addR 17 ((m : Int) + 4) (addR 3 2 (addR 5 1 rs0))) = nextR (addR 1 ((m : Int) + 5) (addR 17 ((m : Int) + 4) (addR 3 2 (addR 5 1 rs0)))) := by
    rw [step_break (b := b) (r := addR 17 ((m : Int) + 4) (addR 3 2 (addR 5 1 rs0))) (by show (0 : Int) ≤ (m : Int) + 4; omega) (by show 0 < brk b ((m : Int) + 4); omega)]
    unfold breakR
    rw [if_neg (by show ¬ (-2 : Int) ≥ -1; decide)]
    show nextR (addR 1 ((m : Int) + 4 + brk b ((m : Int) + 4)) _) = _
    rw [hbr, show (m : Int) + 4 + 1 = (m : Int) + 5 by omega]
  have f3 := (f2.add 1 (e := (m : Int) + 5) (by show (m : Int) + 4 < _; omega) (by omega)).next
  refine toksR_by hB (by omega) ?_
  refine EndsR.via (fine0 _) (by show (0 : Int) < _; omega) e0 (by decide) ?_
  refine EndsR.via f0 (by show (1 : Int) < _; omega) e1 (by decide) ?_
  refine EndsR.via f1 (by show (2 : Int) < _; omega) e2 (by show (2 : Int) < (m : Int) + 4; omega) ?_
  exact EndsR.via f2 (by show (m : Int) + 4 < _; omega) e3 (by show (m : Int) + 4 < (m : Int) + 5; omega) (EndsR.stop f3 (by show ¬ (m : Int) + 5 < _; omega))
end Go.Proofs.Ytabdoommjdgogaa.Same
namespace Go.Proofs.Ytabdoommjdgogaa.Pure
open Go.RowKit Go.Proofs.Ytabdoommjdgogaa.Q Go.Proofs.YtabdoommjdgogaaW.PrintWords Go.Proofs.YtabdoommjdgogaaW.PrintLast Go.Proofs.YtabdoommjdgogaaW.PrintMore
set_option linter.unusedVariables false
theorem QuoteToken : correctorlaw7_QuoteToken.Pure := by
  intro s _
  obtain ⟨K, hK⟩ : ∃ K, 3000 < K := ⟨3001, by omega⟩
  refine ⟨K, ?_⟩
  unfold correctorlaw7_QuoteToken.f
  rw [known7 K (by omega), Option.bind_some, if_pos rfl]
  by_cases h : (s.size : Int) > 100
  · rw [if_pos h]
  have hz := wrt_size s
  have hb := wrt_bs s
  have hl : (sgs (bs s)).length + 2 = (wrt s).size := by
    have := bs_len (wrt s)
    rw [hb] at this
    simp at this
    omega
  have z2 : (⟨#[45, 32]⟩ : ByteArray).size = 2 := rfl
  have z1 : (⟨#[10]⟩ : ByteArray).size = 1 := rfl
  have hbytes : bytesOf (((⟨#[45, 32]⟩ : ByteArray) ++ wrt s) ++ (⟨#[10]⟩ : ByteArray)) = [45, 32] ++ (34 :: (sgs (bs s) ++ [34])) ++ [10] := by
    show bs _ = _
    rw [bs_append, bs_append, hb]
    rfl
  have e1 : correctorref6_Tokens.f (bytesOf (((⟨#[45, 32]⟩ : ByteArray) ++ wrt s) ++ (⟨#[10]⟩ : ByteArray))) = _ := (congrArg Rf.toksR hbytes).trans (Same.quote_toks (bs s) (bs_byt s) (by omega))
  rw [if_neg h, written_eq K s (by omega) (by omega), Option.bind_some, if_pos (by omega), if_pos (by rw [ByteArray.size_append]; omega), if_pos (by rw [ByteArray.size_append, ByteArray.size_append]; omega), e1, Option.bind_some]
  have hw : wrap64 (2 + ((wrt s).size : Int)) = 2 + ((wrt s).size : Int) := by unfold wrap64; omega
  simp [rd_T39, hw]
  omega
end Go.Proofs.Ytabdoommjdgogaa.Pure
