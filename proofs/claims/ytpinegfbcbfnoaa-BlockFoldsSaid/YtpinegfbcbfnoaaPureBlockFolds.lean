/- BlockFolds: folded, words on lines of their own are one line; an empty one between parts them. For every input. -/
import Derived.Test.YtpinegfbcbfnoaaE5
import Derived.Test.YtpinegfbcbfnoaaQLawBlockFolds
namespace Go.Proofs.Ytpinegfbcbfnoaa.Pure
open Go.RowKit Go.Proofs.Ytpinegfbcbfnoaa.Q Go.Proofs.YtpinegfbcbfnoaaW.PrintWords Go.Proofs.YtpinegfbcbfnoaaW.PrintLast
set_option linter.unusedVariables false
set_option linter.unusedSimpArgs false
def Word (w : List Int) : Prop := lets w = true ∧ w ≠ [] ∧ w.length ≤ 30
/-- A content as a line of the law has it. -/
def pre : List Int → List Int
  | [] => []
  | c :: t => 32 :: 32 :: c :: t
theorem pre_word (w : List Int) (h : Word w) : pre w = List.replicate 2 32 ++ w := by
  obtain ⟨c, t, rfl, _⟩ := lets_head w h.1 h.2.1
  rfl
theorem cut_pre (c : List Int) (h : c = [] ∨ Word c) : cutL 2 (pre c) = c := by
  rcases h with rfl | h
  · rfl
  · rw [pre_word c h]
    exact cut_word 2 c h.1 h.2.1
theorem word_emp (w : List Int) (h : Word w) : emp w = false := emp_word 0 w h.1 h.2.1
theorem word_blk (w : List Int) (h : Word w) : blk (w.headD 0) = false := by
  obtain ⟨c, t, rfl, h1, h2⟩ := lets_head w h.1 h.2.1
  exact decide_eq_false (show ¬ (c = 32 ∨ c = 9) by omega)
theorem fol_gap (w : List Int) (hw : emp w = false) (Y : List (List Int)) (last : List Int) (g : Nat) : ∀ k, fol (List.replicate g [] ++ (w :: Y)) last k = (if last = [] then List.replicate (k + g) 10 else betw last w (k + g)) ++ (w ++ fol Y w 0) := by
  induction g with
  | zero =>
    intro k
    show fol (w :: Y) last k = _
    rw [fol, if_neg (by rw [hw]; decide), Nat.add_zero]
  | succ g ih =>
    intro k
    rw [List.replicate_succ, List.cons_append, fol, if_pos (show emp [] = true from rfl), ih (k + 1), show k + 1 + g = k + (g + 1) by omega]
theorem betw_words (a b : List Int) (ha : Word a) (hb : Word b) (g : Nat) : betw a b g = if g = 0 then [32] else List.replicate g 10 := by
  unfold betw
  rw [word_blk a ha, word_blk b hb, if_neg Bool.false_ne_true, if_neg Bool.false_ne_true]
theorem fold_end (ls : List ByteArray) (w : ByteArray) (C : List (List Int)) (w0 z : List Int) (t Y : List (List Int)) (hC : C = w0 :: t) (hCz : C = Y ++ [z]) (h0 : Word w0) (hz : Word z) (hl : C.length ≤ 36) (hCs : ∀ x ∈ C, x = [] ∨ Word x)
    (hs : ∀ x ∈ ls, x.size ≤ 100 ∧ Asc (bs x)) (hL : ls.map (fun x => ownL (bs x)) = C.map pre) (hw : fol C [] 0 = bs w) (k : Nat) (hk : 1300 < k) (x0 : List ByteArray) (x1 : List Int) (i : Int) (hi : ¬ i < (x0.length : Int)) :
    correctorlaw8_BlockFolds.l0 k x0 x1 ls w i = some true := by
  obtain ⟨k, rfl⟩ : ∃ m, k = m + 1 := ⟨k - 1, by omega⟩
  have hlen : ls.length = C.length := by have := congrArg List.length hL; rwa [List.length_map, List.length_map] at this
  have hfl := fol_len C (fun x hx => by
    rcases hCs x hx with rfl | h
    · exact Nat.zero_le _
    · have := h.2.2; omega) [] 0
  rw [hw, bs_len] at hfl
  have hcut : (C.map pre).map (cutL 2) = C := by
    rw [List.map_map]
    conv => rhs; rw [← List.map_id C]
    exact List.map_congr_left fun y hy => cut_pre y (hCs y hy)
  have hg : Good ls := good_asc ls (by omega) hs
  have two (mm : Bool) : txt true false mm (C.map pre) = bs w ++ (if mm = true then [] else [10]) := by
    have := txt_two true false mm 2 (pre w0) (t.map pre) (Y.map pre) (pre z) [] (by rw [pre_word w0 h0]; exact emp_word 2 w0 h0.1 h0.2.1) (by rw [pre_word z hz]; exact emp_word 2 z hz.1 hz.2.1)
      (by have h1 := congrArg (List.map pre) (hC.symm.trans hCz); rwa [List.map_cons, List.map_append, List.map_cons, List.map_nil] at h1) (fun y hy => by cases hy)
      (by rw [pre_word w0 h0]; exact spc_word 2 w0 h0.1 h0.2.1 _ (by rw [List.length_append, List.length_replicate]; omega))
    rw [List.append_nil, ← List.map_cons, ← hC, hcut, if_pos rfl, if_neg (by decide : ¬ false = true), hw] at this
    exact this
  have e3 : strOfNums (bs w ++ [10]) = w ++ (⟨#[10]⟩ : ByteArray) := nums_app w [10] (byt1 (by omega))
  rw [correctorlaw8_BlockFolds.l0, if_neg hi, text_eq _ _ _ _ head_fold_strip ls hg k (by omega), Option.bind_some, hL, two true, if_pos rfl, List.append_nil, nums_bs, if_pos rfl,
    text_eq _ _ _ _ head_fold ls hg k (by omega), Option.bind_some, hL, two false, if_neg Bool.false_ne_true, e3, if_pos (by omega)]
  congr 1
  exact beq_self_eq_true _
theorem fold_go (x0 : List ByteArray) (x1 : List Int) (hx0 : 0 < x0.length ∧ x0.length ≤ 12) (d : Nat) : ∀ (k i : Nat) (ls : List ByteArray) (w : ByteArray) (C : List (List Int)) (last : List Int), i + d = x0.length → 1400 + 30 * d < k →
    C.length ≤ 3 * i → (∀ x ∈ C, x = [] ∨ Word x) → (∀ x ∈ ls, x.size ≤ 100 ∧ Asc (bs x)) → ls.map (fun x => ownL (bs x)) = C.map pre → (∀ Y, fol (C ++ Y) [] 0 = bs w ++ fol Y last 0) →
    (i = 0 ∧ C = [] ∧ last = [] ∨ 0 < i ∧ Word last ∧ (∃ w0 t, C = w0 :: t ∧ Word w0) ∧ ∃ Z, C = Z ++ [last]) →
    correctorlaw8_BlockFolds.l0 k x0 x1 ls w (i : Int) = some true := by
  induction d with
  | zero =>
    intro k i ls w C last hi hk hl hCs hs hL hF hc
    rcases hc with ⟨h0, _⟩ | ⟨h0, hla, ⟨w0, t, hC, hw0⟩, Z, hZ⟩
    · omega
    have hw := hF []
    rw [List.append_nil, fol, List.append_nil] at hw
    exact fold_end ls w C w0 last t Z hC hZ hw0 hla (by omega) hCs hs hL hw k (by omega) x0 x1 i (by omega)
  | succ d ih =>
    intro k i ls w C last hi hk hl hCs hs hL hF hc
    obtain ⟨k, rfl⟩ : ∃ m, k = m + 4 := ⟨k - 4, by omega⟩
    have yes : correctorlaw8_BlockFolds.j2 (k + 3) x0 x1 ls w (i : Int) true = some true := by rw [correctorlaw8_BlockFolds.j2, if_pos rfl]
    rw [correctorlaw8_BlockFolds.l0, if_pos (by omega), if_pos (by omega)]
    generalize hv : rdOf ByteArray.empty x0 (i : Int) = v at *
    by_cases a : v.toList = ([] : List UInt8)
    · rw [if_pos a]; exact yes
    rw [if_neg a]
    by_cases b : (v.size : Int) > 30
    · rw [if_pos b]; exact yes
    rw [if_neg b, letters_eq (k + 3) v (by omega) (by omega), Option.bind_some]
    by_cases c : lets (bs v) = true
    · have hne : bs v ≠ [] := fun h => a ((emp_nil v).2 h)
      have hword : Word (bs v) := ⟨c, hne, by rw [bs_len]; omega⟩
      have hlen : ls.length = C.length := by have := congrArg List.length hL; rwa [List.length_map, List.length_map] at this
      have hw := hF []
      rw [List.append_nil, fol, List.append_nil] at hw
      have hfl := fol_len C (fun x hx => by
        rcases hCs x hx with rfl | h
        · exact Nat.zero_le _
        · have := h.2.2; omega) [] 0
      rw [hw, bs_len] at hfl
      have hb2 : bs (((⟨#[32, 32]⟩ : ByteArray) ++ v) ++ (⟨#[10]⟩ : ByteArray)) = List.replicate 2 32 ++ (bs v ++ [10]) := by rw [bs_append, bs_append, List.append_assoc]; rfl
      have hz1 : ((⟨#[32, 32]⟩ : ByteArray) ++ v).size = 2 + v.size := by rw [ByteArray.size_append]; rfl
      -- the word's line is put, behind g gaps
      have next (g : Nat) (hg : g ≤ 2) (hg0 : i = 0 → g = 0) (k : Nat) (hk : 1400 + 30 * d < k) (ls2 : List ByteArray) (w2 : ByteArray) (h1 : ∀ x ∈ ls2, x.size ≤ 100 ∧ Asc (bs x)) (h2 : ls2.map (fun x => ownL (bs x)) = C.map pre ++ List.replicate g [])
          (h3 : bs w2 = bs w ++ ((if i = 0 then [] else if g = 0 then [32] else List.replicate g 10) ++ bs v)) : correctorlaw8_BlockFolds.l0 k x0 x1 (ls2 ++ [((⟨#[32, 32]⟩ : ByteArray) ++ v) ++ (⟨#[10]⟩ : ByteArray)]) w2 ((i + 1 : Nat) : Int) = some true := by
        refine ih k (i + 1) _ w2 (C ++ (List.replicate g [] ++ [bs v])) (bs v) (by omega) hk ?_ ?_ ?_ ?_ ?_ (.inr ⟨by omega, hword, ?_, C ++ List.replicate g [], (List.append_assoc ..).symm⟩)
        · rw [List.length_append, List.length_append, List.length_replicate]
          show C.length + (g + 1) ≤ 3 * (i + 1)
          omega
        · intro x hx
          rcases List.mem_append.1 hx with h1 | h1
          · exact hCs x h1
          rcases List.mem_append.1 h1 with h2 | h2
          · exact .inl (List.mem_replicate.1 h2).2
          · rw [List.mem_singleton.1 h2]; exact .inr hword
        · intro x hx
          rcases List.mem_append.1 hx with h | h
          · exact h1 x h
          · rw [List.mem_singleton.1 h, hb2]
            refine ⟨?_, asc_spaces 2 _ c⟩
            rw [ByteArray.size_append, hz1]
            show 2 + v.size + 1 ≤ 100
            omega
        · rw [List.map_append, h2, List.map_append, List.map_append, List.map_replicate, List.map_cons, List.map_nil, List.map_cons, List.map_nil, hb2, ownL_spaces, lets_own _ [] c, pre_word _ hword, List.append_assoc]
          rfl
        · intro Y
          rw [List.append_assoc, List.append_assoc, hF, List.cons_append, List.nil_append, fol_gap _ (word_emp _ hword), h3, Nat.zero_add, List.append_assoc, List.append_assoc]
          congr 2
          rcases hc with ⟨h0, _, hla⟩ | ⟨h0, hla, _⟩
          · rw [if_pos hla, if_pos h0, hg0 h0]
            rfl
          · rw [if_neg hla.2.1, if_neg (by omega), betw_words last _ hla hword]
        · rcases hc with ⟨h0, hC, _⟩ | ⟨_, _, ⟨w0, t, hC, hw0⟩, _⟩
          · rw [hC, hg0 h0]
            exact ⟨bs v, [], rfl, hword⟩
          · rw [hC]
            exact ⟨w0, _, rfl, hw0⟩
      -- the gaps
      have gaps (g : Nat) (hg : g ≤ 2) (hg0 : i = 0 → g = 0) (e : Nat) : ∀ (k j : Nat) (ls2 : List ByteArray) (w2 : ByteArray), j + e = g → 1410 + 30 * d + e < k → (∀ x ∈ ls2, x.size ≤ 100 ∧ Asc (bs x)) → ls2.map (fun x => ownL (bs x)) = C.map pre ++ List.replicate j [] → bs w2 = bs w ++ List.replicate j 10 →
          correctorlaw8_BlockFolds.l1 k x0 x1 ls2 w2 (i : Int) (g : Int) (j : Int) = some true := by
        induction e with
        | zero =>
          intro k j ls2 w2 hj hk h1 h2 h3
          obtain ⟨k, rfl⟩ : ∃ m, k = m + 1 := ⟨k - 1, by omega⟩
          obtain rfl : j = g := by omega
          have hl2 : ls2.length = C.length + j := by have := congrArg List.length h2; rwa [List.length_map, List.length_append, List.length_map, List.length_replicate] at this
          have hwz := bs_size _ _ h3
          rw [List.length_append, bs_len, List.length_replicate] at hwz
          have hw1 : (w2 ++ (⟨#[32]⟩ : ByteArray)).size = w2.size + 1 := by rw [ByteArray.size_append]; rfl
          rw [correctorlaw8_BlockFolds.l1, if_neg (by omega), hv, w64 (x := (i : Int) + 1) (by omega) (by omega), show (i : Int) + 1 = ((i + 1 : Nat) : Int) by omega]
          by_cases q : i = 0
          · have hj0 := hg0 q
            subst hj0
            rw [if_neg (by omega), if_pos (by omega), if_pos (by omega), if_pos (by omega), if_pos (by omega), if_pos (by omega), if_pos (by omega)]
            refine next 0 (by omega) (fun _ => rfl) k (by omega) ls2 _ h1 h2 ?_
            rw [bs_append, h3, if_pos q, List.append_assoc]
            rfl
          · rw [if_pos (by omega)]
            by_cases r : j = 0
            · subst r
              rw [if_pos (by rfl), if_pos (by omega), if_pos (by omega), if_pos (by omega), if_pos (by omega), if_pos (by omega), if_pos (by omega), if_pos (by omega)]
              refine next 0 (by omega) (fun _ => rfl) k (by omega) ls2 _ h1 h2 ?_
              rw [bs_append, bs_append, h3, if_neg q, if_pos rfl, List.append_assoc, List.append_assoc]
              rfl
            · rw [if_neg (by omega), if_pos (by omega), if_pos (by omega), if_pos (by omega), if_pos (by omega), if_pos (by omega), if_pos (by omega)]
              refine next j hg hg0 k (by omega) ls2 _ h1 h2 ?_
              rw [bs_append, h3, if_neg q, if_neg r, List.append_assoc]
        | succ e ih2 =>
          intro k j ls2 w2 hj hk h1 h2 h3
          obtain ⟨k, rfl⟩ : ∃ m, k = m + 1 := ⟨k - 1, by omega⟩
          have hl2 : ls2.length = C.length + j := by have := congrArg List.length h2; rwa [List.length_map, List.length_append, List.length_map, List.length_replicate] at this
          have hwz := bs_size _ _ h3
          rw [List.length_append, bs_len, List.length_replicate] at hwz
          rw [correctorlaw8_BlockFolds.l1, if_pos (by omega), if_pos (by omega), if_pos (by omega), w64 (x := (j : Int) + 1) (by omega) (by omega), show (j : Int) + 1 = ((j + 1 : Nat) : Int) by omega]
          refine ih2 k (j + 1) _ _ (by omega) (by omega) ?_ ?_ ?_
          · intro x hx
            rcases List.mem_append.1 hx with h | h
            · exact h1 x h
            · rw [List.mem_singleton.1 h]
              exact ⟨by decide, by unfold Asc; decide⟩
          · rw [List.map_append, h2, List.replicate_succ', ← List.append_assoc]
            rfl
          · rw [bs_append, h3, List.replicate_succ', ← List.append_assoc]
            rfl
      have start (g : Nat) (hg : g ≤ 2) (hg0 : i = 0 → g = 0) (k : Nat) (hk : 1420 + 30 * d < k) : correctorlaw8_BlockFolds.j4 k x0 x1 ls w (i : Int) (g : Int) = some true := by
        obtain ⟨k, rfl⟩ : ∃ m, k = m + 1 := ⟨k - 1, by omega⟩
        rw [correctorlaw8_BlockFolds.j4]
        exact gaps g hg hg0 g k 0 ls w (by omega) (by omega) hs (by rw [hL]; exact (List.append_nil _).symm) (List.append_nil _).symm
      rw [c, correctorlaw8_BlockFolds.j2, if_neg (by decide)]
      by_cases e : (i : Int) < (x1.length : Int)
      · rw [if_pos e, correctorlaw8_BlockFolds.j3]
        by_cases q : i = 0
        · rw [decide_eq_false (by omega), if_neg Bool.false_ne_true]
          exact start 0 (by omega) (fun _ => rfl) (k + 1) (by omega)
        · obtain ⟨g, hg, g0, g1⟩ := within8 (rd x1 (i : Int)) 3 (by decide) (by decide)
          obtain ⟨g, rfl⟩ : ∃ q : Nat, g = (q : Int) := ⟨g.toNat, by omega⟩
          rw [decide_eq_true (by omega), if_pos rfl, if_pos (by omega), if_pos e, hg, Option.bind_some]
          exact start g (by omega) (fun h => absurd h q) (k + 1) (by omega)
      · rw [if_neg e, correctorlaw8_BlockFolds.j3, if_neg Bool.false_ne_true]
        exact start 0 (by omega) (fun _ => rfl) (k + 1) (by omega)
    · have c2 : lets (bs v) = false := by simpa using c
      rw [c2]; exact yes
theorem BlockFolds : correctorlaw8_BlockFolds.Pure := by
  intro l x1 _ _ _ _ _ _
  obtain ⟨K, hK⟩ : ∃ K, 3000 < K := ⟨3001, by omega⟩
  refine ⟨K, ?_⟩
  unfold correctorlaw8_BlockFolds.f
  rw [known8 K (by omega), Option.bind_some, if_pos rfl]
  obtain ⟨K, rfl⟩ : ∃ m, K = m + 1 := ⟨K - 1, by omega⟩
  have yes : correctorlaw8_BlockFolds.j0 (K + 1) l x1 true = some true := by rw [correctorlaw8_BlockFolds.j0, if_pos rfl]
  by_cases a : (l.length : Int) = 0
  · rw [if_pos a]; exact yes
  rw [if_neg a]
  by_cases b : (l.length : Int) > 12
  · rw [decide_eq_true b]; exact yes
  rw [decide_eq_false b, correctorlaw8_BlockFolds.j0, if_neg Bool.false_ne_true]
  exact fold_go l x1 ⟨by omega, by omega⟩ l.length K 0 [] ⟨#[]⟩ [] [] (by omega) (by omega) (Nat.zero_le _) (fun x hx => by cases hx) (fun x hx => by cases hx) rfl (fun Y => rfl) (.inl ⟨rfl, rfl, rfl⟩)
end Go.Proofs.Ytpinegfbcbfnoaa.Pure
