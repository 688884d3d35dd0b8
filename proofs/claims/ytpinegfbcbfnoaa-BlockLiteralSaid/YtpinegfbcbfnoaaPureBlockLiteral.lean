/- BlockLiteral: of |- lines stand as they are, without their indent. For every input. -/
import Derived.Test.YtpinegfbcbfnoaaE5
import Derived.Test.YtpinegfbcbfnoaaQLawBlockLiteral
namespace Go.Proofs.Ytpinegfbcbfnoaa.Pure
open Go.RowKit Go.Proofs.Ytpinegfbcbfnoaa.Q Go.Proofs.YtpinegfbcbfnoaaW.PrintWords Go.Proofs.YtpinegfbcbfnoaaW.PrintLast
set_option linter.unusedVariables false
set_option linter.unusedSimpArgs false
def Word (w : List Int) : Prop := lets w = true ∧ w ≠ [] ∧ w.length ≤ 30
theorem join_len30 (l : List (List Int)) (h : ∀ x ∈ l, x.length ≤ 30) : (joinL l).length ≤ 101 * l.length := join_len l fun x hx => by have := h x hx; omega
theorem lit_end (m : Nat) (hm : m ≤ 8) (ls : List ByteArray) (w : ByteArray) (Ws : List (List Int)) (hne : Ws ≠ []) (hl : ls.length ≤ 12) (hWs : ∀ x ∈ Ws, Word x) (hs : ∀ x ∈ ls, x.size ≤ 100 ∧ Asc (bs x))
    (hL : ls.map (fun x => ownL (bs x)) = Ws.map (List.replicate m 32 ++ ·)) (hw : bs w = joinL Ws) (k : Nat) (hk : 1300 < k) (x0 : List ByteArray) (a1 i : Int) (hi : ¬ i < (x0.length : Int)) :
    correctorlaw8_BlockLiteral.l0 k x0 a1 ls w i = some true := by
  obtain ⟨k, rfl⟩ : ∃ m, k = m + 1 := ⟨k - 1, by omega⟩
  have hlen : ls.length = Ws.length := by have := congrArg List.length hL; rwa [List.length_map, List.length_map] at this
  have hjl := join_len30 Ws fun x hx => (hWs x hx).2.2
  have hwz := bs_size _ _ hw
  obtain ⟨x, t, rfl⟩ := List.exists_cons_of_ne_nil hne
  obtain ⟨Y, z, hYz⟩ : ∃ Y z, x :: t = Y ++ [z] := ⟨_, _, (List.dropLast_concat_getLast hne).symm⟩
  have hx := hWs x (List.mem_cons_self ..)
  have hz := hWs z (by rw [hYz]; exact List.mem_append_right _ (List.mem_singleton.2 rfl))
  have hcut : ((x :: t).map (List.replicate m 32 ++ ·)).map (cutL m) = x :: t := by
    rw [List.map_map]
    conv => rhs; rw [← List.map_id (x :: t)]
    exact List.map_congr_left fun y hy => cut_word m y (hWs y hy).1 (hWs y hy).2.1
  have hsp : spc (List.replicate m 32 ++ x) (List.replicate m (32 : Int) ++ x).length = m := spc_word m x hx.1 hx.2.1 _ (by rw [List.length_append, List.length_replicate]; omega)
  have two (p mm : Bool) (E : List (List Int)) (hE : ∀ y ∈ E, emp y = true) : txt false p mm ((x :: t).map (List.replicate m 32 ++ ·) ++ E) = joinL (x :: t) ++ (if mm = true then [] else if p = true then List.replicate (1 + E.length) 10 else [10]) := by
    have := txt_two false p mm m (List.replicate m 32 ++ x) (t.map (List.replicate m 32 ++ ·)) (Y.map (List.replicate m 32 ++ ·)) (List.replicate m 32 ++ z) E (emp_word m x hx.1 hx.2.1) (emp_word m z hz.1 hz.2.1)
      (by have := congrArg (List.map (List.replicate m (32 : Int) ++ ·)) hYz; rwa [List.map_cons, List.map_append, List.map_cons, List.map_nil] at this) hE hsp
    rw [List.map_cons]
    rw [List.map_cons] at hcut
    rw [this, if_neg Bool.false_ne_true, hcut]
  have hg : Good ls := good_asc ls (by omega) hs
  have hls2 : (ls ++ [(⟨#[10]⟩ : ByteArray), (⟨#[32, 32, 10]⟩ : ByteArray)]).map (fun x => ownL (bs x)) = (x :: t).map (List.replicate m 32 ++ ·) ++ [[], [32, 32]] := by
    rw [List.map_append, hL]
    rfl
  have hg2 : Good (ls ++ [(⟨#[10]⟩ : ByteArray), (⟨#[32, 32, 10]⟩ : ByteArray)]) := good_asc _ (by rw [List.length_append]; show ls.length + 2 ≤ 40; omega) fun y hy => by
    rcases List.mem_append.1 hy with h1 | h1
    · exact hs y h1
    · simp only [List.mem_cons, List.not_mem_nil, or_false] at h1
      rcases h1 with rfl | rfl
      · exact ⟨by decide, by unfold Asc; decide⟩
      · exact ⟨by decide, by unfold Asc; decide⟩
  have t1 := two false true [] (fun y hy => by cases hy)
  have t2 := two false false [] (fun y hy => by cases hy)
  have t3 := two true false [[], [32, 32]] (fun y hy => by
    simp only [List.mem_cons, List.not_mem_nil, or_false] at hy
    rcases hy with rfl | rfl <;> rfl)
  rw [List.append_nil] at t1 t2
  have e1 : strOfNums (joinL (x :: t)) = w := by rw [← hw, nums_bs]
  have e2 (l : List Int) (hl : Byt l) : strOfNums (joinL (x :: t) ++ l) = w ++ strOfNums l := by rw [← hw, nums_app w l hl]
  have e3 : strOfNums [10] = (⟨#[10]⟩ : ByteArray) := rfl
  rw [correctorlaw8_BlockLiteral.l0, if_neg hi, text_eq _ _ _ _ head_lit_strip ls hg k (by omega), Option.bind_some, hL, t1, if_pos rfl, List.append_nil, e1, if_pos rfl,
    text_eq _ _ _ _ head_lit ls hg k (by omega), Option.bind_some, hL, t2, if_neg Bool.false_ne_true, if_neg Bool.false_ne_true, e2 [10] (byt1 (by omega)), if_pos (by omega), e3, if_pos rfl, Option.bind_some, if_pos (by show ls.length + 2 < _; omega),
    text_eq _ _ _ _ head_lit_keep _ hg2 k (by omega), Option.bind_some, hls2, t3, if_neg Bool.false_ne_true, if_pos rfl, e2 _ (rep_byt _), if_pos (by omega)]
  congr 1
  exact beq_self_eq_true _
theorem lit_go (a1 : Int) (m : Nat) (hm : m ≤ 8) (hwi : correctorlaw8_within.f a1 9 = some (m : Int)) (x0 : List ByteArray) (hx0 : 0 < x0.length ∧ x0.length ≤ 12) (d : Nat) : ∀ (k i : Nat) (ls : List ByteArray) (w : ByteArray) (Ws : List (List Int)), i + d = x0.length → 1400 + 2 * d < k →
    Ws.length = i → (∀ x ∈ Ws, Word x) → (∀ x ∈ ls, x.size ≤ 100 ∧ Asc (bs x)) → ls.map (fun x => ownL (bs x)) = Ws.map (List.replicate m 32 ++ ·) → bs w = joinL Ws →
    correctorlaw8_BlockLiteral.l0 k x0 a1 ls w (i : Int) = some true := by
  induction d with
  | zero =>
    intro k i ls w Ws hi hk hl hWs hs hL hw
    have hlen : ls.length = Ws.length := by have := congrArg List.length hL; rwa [List.length_map, List.length_map] at this
    exact lit_end m hm ls w Ws (fun h => by rw [h] at hl; simp at hl; omega) (by omega) hWs hs hL hw k (by omega) x0 a1 i (by omega)
  | succ d ih =>
    intro k i ls w Ws hi hk hl hWs hs hL hw
    obtain ⟨k, rfl⟩ : ∃ m, k = m + 2 := ⟨k - 2, by omega⟩
    have hlen : ls.length = Ws.length := by have := congrArg List.length hL; rwa [List.length_map, List.length_map] at this
    have yes : correctorlaw8_BlockLiteral.j2 (k + 1) x0 a1 ls w (i : Int) true = some true := by rw [correctorlaw8_BlockLiteral.j2, if_pos rfl]
    rw [correctorlaw8_BlockLiteral.l0, if_pos (by omega), if_pos (by omega)]
    generalize hv : rdOf ByteArray.empty x0 (i : Int) = v at *
    by_cases a : v.toList = ([] : List UInt8)
    · rw [if_pos a]; exact yes
    rw [if_neg a]
    by_cases b : (v.size : Int) > 30
    · rw [if_pos b]; exact yes
    rw [if_neg b, letters_eq (k + 1) v (by omega) (by omega), Option.bind_some]
    by_cases c : lets (bs v) = true
    · have hne : bs v ≠ [] := fun h => a ((emp_nil v).2 h)
      have hword : Word (bs v) := ⟨c, hne, by rw [bs_len]; omega⟩
      have hb : bs ((⟨#[32, 32, 32, 32, 32, 32, 32, 32, 32, 32]⟩ : ByteArray).extract 0 m) = List.replicate m 32 := spaces_bs _ m rfl (show m ≤ 10 by omega)
      have hz := bs_size _ _ hb
      rw [List.length_replicate] at hz
      have hb2 : bs ((((⟨#[32, 32, 32, 32, 32, 32, 32, 32, 32, 32]⟩ : ByteArray).extract 0 m) ++ v) ++ (⟨#[10]⟩ : ByteArray)) = List.replicate m 32 ++ (bs v ++ [10]) := by rw [bs_append, bs_append, hb, List.append_assoc]; rfl
      have hz1 : (((⟨#[32, 32, 32, 32, 32, 32, 32, 32, 32, 32]⟩ : ByteArray).extract 0 m) ++ v).size = m + v.size := by rw [ByteArray.size_append, hz]
      have hjl := join_len30 Ws fun x hx => (hWs x hx).2.2
      have hwz := bs_size _ _ hw
      have hwz1 : (w ++ (⟨#[10]⟩ : ByteArray)).size = w.size + 1 := by rw [ByteArray.size_append]; rfl
      rw [c, correctorlaw8_BlockLiteral.j2, if_neg (by decide), hwi, Option.bind_some, if_pos (by omega), if_pos (by omega), if_pos (by omega), if_pos (by omega), Int.toNat_natCast, hv, if_pos (by omega), if_pos (by omega), if_pos (by omega), Option.bind_some, w64 (x := (i : Int) + 1) (by omega) (by omega), show (i : Int) + 1 = ((i + 1 : Nat) : Int) by omega]
      have next (w2 : ByteArray) (h2 : bs w2 = joinL (Ws ++ [bs v])) : correctorlaw8_BlockLiteral.l0 k x0 a1 (ls ++ [(((⟨#[32, 32, 32, 32, 32, 32, 32, 32, 32, 32]⟩ : ByteArray).extract 0 m) ++ v) ++ (⟨#[10]⟩ : ByteArray)]) w2 ((i + 1 : Nat) : Int) = some true := by
        refine ih k (i + 1) _ w2 (Ws ++ [bs v]) (by omega) (by omega) (by rw [List.length_append, hl]; rfl) ?_ ?_ ?_ h2
        · intro x hx
          rcases List.mem_append.1 hx with h1 | h1
          · exact hWs x h1
          · rw [List.mem_singleton.1 h1]; exact hword
        · intro x hx
          rcases List.mem_append.1 hx with h1 | h1
          · exact hs x h1
          · rw [List.mem_singleton.1 h1, hb2]
            refine ⟨?_, asc_spaces m _ c⟩
            rw [ByteArray.size_append, hz1]
            show m + v.size + 1 ≤ 100
            omega
        · rw [List.map_append, List.map_append, hL, List.map_cons, List.map_nil, List.map_cons, List.map_nil, hb2, ownL_spaces, lets_own _ [] c]
      by_cases e : i = 0
      · have hW0 : Ws = [] := List.eq_nil_of_length_eq_zero (by omega)
        rw [if_neg (by omega), if_pos (by omega)]
        refine next _ ?_
        rw [bs_append, hw, hW0]
        show [] ++ bs v = bs v ++ [].flatten
        simp
      · have hWn : Ws ≠ [] := fun h => by rw [h] at hl; simp at hl; omega
        rw [if_pos (by omega), if_pos (by omega), if_pos (by omega)]
        refine next _ ?_
        rw [bs_append, bs_append, hw, join_snoc Ws _ hWn]
        rfl
    · have c2 : lets (bs v) = false := by simpa using c
      rw [c2]; exact yes
theorem BlockLiteral : correctorlaw8_BlockLiteral.Pure := by
  intro l a1 _ _ _ _
  obtain ⟨K, hK⟩ : ∃ K, 3000 < K := ⟨3001, by omega⟩
  refine ⟨K, ?_⟩
  obtain ⟨m, hm, m0, m1⟩ := within8 a1 9 (by decide) (by decide)
  obtain ⟨m, rfl⟩ : ∃ q : Nat, m = (q : Int) := ⟨m.toNat, by omega⟩
  unfold correctorlaw8_BlockLiteral.f
  rw [known8 K (by omega), Option.bind_some, if_pos rfl]
  obtain ⟨K, rfl⟩ : ∃ m, K = m + 1 := ⟨K - 1, by omega⟩
  have yes : correctorlaw8_BlockLiteral.j0 (K + 1) l a1 true = some true := by rw [correctorlaw8_BlockLiteral.j0, if_pos rfl]
  by_cases a : (l.length : Int) = 0
  · rw [if_pos a]; exact yes
  rw [if_neg a]
  by_cases b : (l.length : Int) > 12
  · rw [decide_eq_true b]; exact yes
  rw [decide_eq_false b, correctorlaw8_BlockLiteral.j0, if_neg Bool.false_ne_true]
  exact lit_go a1 m (by omega) hm l ⟨by omega, by omega⟩ l.length K 0 [] ⟨#[]⟩ [] (by omega) (by omega) rfl (fun x hx => by cases hx) (fun x hx => by cases hx) rfl rfl
end Go.Proofs.Ytpinegfbcbfnoaa.Pure
