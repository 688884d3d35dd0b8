/- Chapter 8: what lines beneath a head say: a plain law, and that block.Text answers it. -/
import Derived.Test.YtpinegfbcbfnoaaE2
namespace Go.Proofs.Ytpinegfbcbfnoaa.Pure
open Go.RowKit Go.Proofs.Ytpinegfbcbfnoaa.Q Go.Proofs.YtpinegfbcbfnoaaW.PrintWords Go.Proofs.YtpinegfbcbfnoaaW.PrintLast
set_option linter.unusedVariables false
set_option linter.unusedSimpArgs false

/-- The first and the last line that is not empty (-1: none). -/
def st : List (List Int) → Nat → Int → Int → Int × Int
  | [], _, a, b => (a, b)
  | s :: t, i, a, b => if emp s = true then st t (i + 1) a b else st t (i + 1) (if a < 0 then (i : Int) else a) (i : Int)
/-- A line without its indent. -/
def cutL (ind : Nat) (x : List Int) : List Int := x.drop (spc x ind)
/-- What contents say, under a head: folded?, kept?, stripped? -/
def txt (f p m : Bool) (L : List (List Int)) : List Int :=
  if (st L 0 (-1) (-1)).1 < 0 then (if p = true then List.replicate L.length 10 else [])
  else (if f = true then fol ((L.map (cutL (spc (L.getD (st L 0 (-1) (-1)).1.toNat []) (L.getD (st L 0 (-1) (-1)).1.toNat []).length))).take ((st L 0 (-1) (-1)).2.toNat + 1)) [] 0
      else joinL ((L.map (cutL (spc (L.getD (st L 0 (-1) (-1)).1.toNat []) (L.getD (st L 0 (-1) (-1)).1.toNat []).length))).take ((st L 0 (-1) (-1)).2.toNat + 1)))
    ++ (if m = true then [] else if p = true then List.replicate (1 + (L.length - 1 - (st L 0 (-1) (-1)).2.toNat)) 10 else [10])
/-- A head: its signs. -/
structure Hd (h : ByteArray) (f p m : Bool) : Prop where
  a : strings_HasPrefix.f h (⟨#[62]⟩ : ByteArray) = some f
  b : strings_Contains.f h (⟨#[43]⟩ : ByteArray) = some p
  c : strings_Contains.f h (⟨#[45]⟩ : ByteArray) = some m
def own' (s : ByteArray) : ByteArray := strOfNums (ownL (bs s))
theorem own'_bs (s : ByteArray) : bs (own' s) = ownL (bs s) := bs_nums _ (ownL_byt _ (bs_byt s))
theorem own'_size (s : ByteArray) : (own' s).size ≤ s.size := by
  rw [bs_size _ _ (own'_bs s), ← bs_len s]
  exact ownL_len _
/-- Lines that the program reads. -/
structure Good (ls : List ByteArray) : Prop where
  n : ls.length ≤ 40
  s : ∀ x ∈ ls, x.size ≤ 100
  o : ∀ x ∈ ls, block_own.f x = some (own' x)
theorem set_take {α : Type} (t : α) : ∀ (X : List α) (i : Nat), i < X.length → (X.set i t).take (i + 1) = X.take i ++ [t] := by
  intro X
  induction X with
  | nil => intro i h; exact absurd h (Nat.not_lt_zero _)
  | cons x xs ih =>
    intro i h
    cases i with
    | zero => rfl
    | succ i =>
      have := ih i (Nat.lt_of_succ_lt_succ h)
      show x :: (xs.set i t).take (i + 1) = x :: (xs.take i ++ [t])
      rw [this]
theorem take_add {α : Type} (l : List α) (i : Nat) (h : i < l.length) : l.take (i + 1) = l.take i ++ [l[i]] := List.take_succ_eq_append_getElem h
theorem rdOf_set (X : List ByteArray) (i : Nat) (h : i < X.length) (t : ByteArray) : rdOf ByteArray.empty (X.set i t) (i : Int) = t := by
  rw [rdOf_at _ i (by rw [List.length_set]; exact h), List.getElem_set_self]
theorem st_range (l : List (List Int)) : ∀ (i : Nat) (a b : Int), -1 ≤ a → a < i → -1 ≤ b → b < i → (a < 0 ↔ b < 0) → -1 ≤ (st l i a b).1 ∧ (st l i a b).1 < ((i + l.length : Nat) : Int) ∧ -1 ≤ (st l i a b).2 ∧ (st l i a b).2 < ((i + l.length : Nat) : Int) ∧ ((st l i a b).1 < 0 ↔ (st l i a b).2 < 0) := by
  induction l with
  | nil => intro i a b h1 h2 h3 h4 h5; exact ⟨h1, (show a < ((i + 0 : Nat) : Int) by omega), h3, (show b < ((i + 0 : Nat) : Int) by omega), h5⟩
  | cons s t ih =>
    intro i a b h1 h2 h3 h4 h5
    rw [st, List.length_cons, show i + (t.length + 1) = i + 1 + t.length by omega]
    split
    · exact ih (i + 1) a b h1 (by omega) h3 (by omega) h5
    · refine ih (i + 1) _ _ ?_ ?_ (by omega) (by omega) ?_
      · split <;> omega
      · split <;> omega
      · split <;> omega
theorem cut_byt (n : Nat) (x : List Int) (h : Byt x) : Byt (cutL n x) := h.drop _
/-- What the program does behind its two loops. -/
theorem end_eq (f p m : Bool) (k : Nat) (hk : 10 < k) (t : ByteArray) (ht : t.size ≤ 100000) (j : Nat) (hj : j ≤ 1000) :
    block_Text.j2 k p m (j : Int) t = some (strOfNums (bs t ++ (if m = true then [] else if p = true then List.replicate (1 + j) 10 else [10]))) := by
  obtain ⟨k, rfl⟩ : ∃ m, k = m + 1 := ⟨k - 1, by omega⟩
  rw [block_Text.j2]
  cases m
  · rw [if_neg Bool.false_ne_true, if_neg Bool.false_ne_true]
    cases p
    · rw [if_neg Bool.false_ne_true, if_neg Bool.false_ne_true, if_pos (by omega), nums_app t [10] (byt1 (by omega))]
      rfl
    · have hz := bs_size _ _ (bs_nums _ (rep_byt (1 + j)))
      rw [List.length_replicate] at hz
      rw [if_pos rfl, if_pos rfl, w64 (by omega) (by omega), show 1 + (j : Int) = ((1 + j : Nat) : Int) by omega, feeds_eq _ (by omega), Option.bind_some, if_pos (by omega), nums_app t _ (rep_byt _)]
  · rw [if_pos rfl, if_pos rfl, List.append_nil, nums_bs]
theorem cut_loop (f p m : Bool) (h : ByteArray) (H : Hd h f p m) (O : List ByteArray) (hO : O.length ≤ 40) (hs : ∀ x ∈ O, x.size ≤ 100) (ind : Nat) (hi : ind ≤ 100) (b : Nat) (hb : b < O.length) (d : Nat) : ∀ (k i : Nat) (X : List ByteArray), i + d = O.length → 500 + d < k →
    X.length = O.length → X.drop i = O.drop i → (X.take i).map bs = (O.take i).map (fun x => cutL ind (bs x)) → (∀ x ∈ X.take i, x.size ≤ 100) →
    block_Text.l1 k h X (b : Int) p m (ind : Int) (O.length : Int) (i : Int) = some (strOfNums ((if f = true then fol (((O.map bs).map (cutL ind)).take (b + 1)) [] 0 else joinL (((O.map bs).map (cutL ind)).take (b + 1))) ++ (if m = true then [] else if p = true then List.replicate (1 + (O.length - 1 - b)) 10 else [10]))) := by
  induction d with
  | zero =>
    intro k i X hid hk hX hdr htk hsz
    obtain ⟨k, rfl⟩ : ∃ m, k = m + 1 := ⟨k - 1, by omega⟩
    have hXall : X.map bs = (O.map bs).map (cutL ind) := by
      have := htk
      rw [List.take_of_length_le (by omega), List.take_of_length_le (by omega)] at this
      rw [this, List.map_map]
      rfl
    rw [List.take_of_length_le (by omega)] at hsz
    have hT : (X.take (b + 1)).map bs = ((O.map bs).map (cutL ind)).take (b + 1) := by rw [List.map_take, hXall]
    have hTs : ∀ x ∈ X.take (b + 1), x.size ≤ 100 := fun x hx => hsz x (List.mem_of_mem_take hx)
    have hTl : (X.take (b + 1)).length ≤ 40 := by rw [List.length_take]; omega
    have hTi : ∀ y ∈ ((O.map bs).map (cutL ind)).take (b + 1), y.length ≤ 100 := fun y hy => by
      rw [← hT] at hy
      obtain ⟨x, hx, rfl⟩ := List.mem_map.1 hy
      rw [bs_len]
      exact hTs x hx
    have hTb : ∀ y ∈ ((O.map bs).map (cutL ind)).take (b + 1), Byt y := fun y hy => by
      rw [← hT] at hy
      obtain ⟨x, hx, rfl⟩ := List.mem_map.1 hy
      exact bs_byt x
    have hTn : (((O.map bs).map (cutL ind)).take (b + 1)).length ≤ 40 := by rw [← hT, List.length_map]; exact hTl
    have e1 : ((X.length : Int) - 1) - (b : Int) = ((O.length - 1 - b : Nat) : Int) := by omega
    have hj := join_eq (X.take (b + 1)) (by omega) hTs
    have hj2 : bs (strOfNums (joinL (((O.map bs).map (cutL ind)).take (b + 1)))) = joinL (((O.map bs).map (cutL ind)).take (b + 1)) := by
      rw [bs_nums]
      rw [← hT, ← join_ints]
      intro x hx
      obtain ⟨c, _, rfl⟩ := List.mem_map.1 hx
      have := c.toNat_lt
      omega
    rw [block_Text.l1, if_neg (by omega), w64 (x := (b : Int) + 1) (by omega) (by omega), show (b : Int) + 1 = ((b + 1 : Nat) : Int) by omega, if_pos (by omega), if_pos (by omega), Int.toNat_natCast]
    unfold slices_Clone_string_string.f
    rw [if_pos (by omega), Option.bind_some, hj, Option.bind_some, H.a, Option.bind_some, hT, w64 (x := (X.length : Int) - 1) (by omega) (by omega), w64 (by omega) (by omega), e1]
    cases f
    · have hz := join_len _ hTi
      rw [if_neg Bool.false_ne_true, if_neg Bool.false_ne_true, end_eq false p m k (by omega) _ (by rw [bs_size _ _ hj2]; omega) _ (by omega), hj2]
    · have hz := fol_len _ hTi [] 0
      have hf := bs_nums _ (fol_byt _ [] 0 hTb)
      rw [if_pos rfl, if_pos rfl, folded_eq _ hTl hTs k (by omega), Option.bind_some, hT, end_eq true p m k (by omega) _ (by rw [bs_size _ _ hf]; omega) _ (by omega), hf]
  | succ d ih =>
    intro k i X hid hk hX hdr htk hsz
    obtain ⟨k, rfl⟩ : ∃ m, k = m + 1 := ⟨k - 1, by omega⟩
    have hin : i < O.length := by omega
    have hXi : i < X.length := by omega
    have hget : X[i] = O[i] := by
      rw [drop_at X i hXi, drop_at O i hin] at hdr
      exact (List.cons.inj hdr).1
    have hdr2 : X.drop (i + 1) = O.drop (i + 1) := by
      rw [drop_at X i hXi, drop_at O i hin] at hdr
      exact (List.cons.inj hdr).2
    have hx := hs _ (List.getElem_mem hin)
    have hsp := spc_le (bs O[i]) ind
    rw [bs_len] at hsp
    rw [block_Text.l1, if_pos (by omega), if_pos (by omega), if_pos (by omega), rdOf_at X i hXi, hget, spaces_eq k _ (by omega) ind (by omega) (by omega), Option.bind_some, if_pos (by omega), if_pos (by omega), Int.toNat_natCast, Int.toNat_natCast, w64 (by omega) (by omega), show (i : Int) + 1 = ((i + 1 : Nat) : Int) by omega]
    have hcut : bs (O[i].extract (spc (bs O[i]) ind) O[i].size) = cutL ind (bs O[i]) := by rw [bs_drop]; rfl
    refine ih k (i + 1) _ (by omega) (by omega) (by rw [List.length_set]; exact hX) ?_ ?_ ?_
    · rw [List.drop_set_of_lt (by omega)]
      exact hdr2
    · rw [set_take _ X i hXi, List.map_append, htk, take_add O i hin, List.map_append, List.map_cons, List.map_nil, List.map_cons, List.map_nil, hcut]
    · rw [set_take _ X i hXi]
      intro x hxm
      rcases List.mem_append.1 hxm with h1 | h1
      · exact hsz x h1
      · rw [List.mem_singleton.1 h1, ByteArray.size_extract]
        omega
theorem own_loop (f p m : Bool) (h : ByteArray) (H : Hd h f p m) (ls : List ByteArray) (G : Good ls) (d : Nat) : ∀ (k i : Nat) (X : List ByteArray) (a b : Int), i + d = ls.length → 1000 + d < k → X.length = ls.length → X.take i = (ls.take i).map own' →
    -1 ≤ a → a < i → -1 ≤ b → b < i → (a < 0 ↔ b < 0) → st (ls.map fun x => ownL (bs x)) 0 (-1) (-1) = st ((ls.drop i).map fun x => ownL (bs x)) i a b →
    block_Text.l0 k h ls X a b ls (ls.length : Int) (i : Int) = some (strOfNums (txt f p m (ls.map fun x => ownL (bs x)))) := by
  have hn := G.n
  induction d with
  | zero =>
    intro k i X a b hid hk hX htk ha0 ha hb0 hb hab hst
    obtain ⟨k, rfl⟩ : ∃ m, k = m + 1 := ⟨k - 1, by omega⟩
    rw [List.take_of_length_le (by omega), List.take_of_length_le (by omega)] at htk
    rw [List.drop_eq_nil_of_le (by omega), List.map_nil, st] at hst
    rw [block_Text.l0, if_neg (by omega), H.b, Option.bind_some, H.c, Option.bind_some]
    unfold txt
    rw [hst, List.length_map]
    simp only
    by_cases c : a < 0
    · rw [if_pos c, if_pos c]
      cases p
      · rw [if_neg Bool.false_ne_true, if_neg Bool.false_ne_true]
        rfl
      · rw [if_pos rfl, if_pos rfl, feeds_eq _ (by omega), Option.bind_some]
    · obtain ⟨a, rfl⟩ : ∃ n : Nat, a = (n : Int) := ⟨a.toNat, by omega⟩
      obtain ⟨b, rfl⟩ : ∃ n : Nat, b = (n : Int) := ⟨b.toNat, by omega⟩
      have hXa : a < X.length := by omega
      have hXe : X[a] = own' (ls[a]'(by omega)) := by
        have : X[a]? = ((ls.map own')[a]?) := by rw [htk]
        rw [List.getElem?_map, List.getElem?_eq_getElem hXa, List.getElem?_eq_getElem (show a < ls.length by omega)] at this
        exact Option.some.inj this
      have hz := own'_size (ls[a]'(by omega))
      have hz2 := G.s _ (List.getElem_mem (show a < ls.length by omega))
      have hL : (ls.map fun x => ownL (bs x)).getD a [] = bs X[a] := by
        rw [List.getD_eq_getElem?_getD, List.getElem?_map, List.getElem?_eq_getElem (show a < ls.length by omega), hXe, own'_bs]
        rfl
      have hsp := spc_le (bs X[a]) (bs X[a]).length
      have hXs : ∀ x ∈ X, x.size ≤ 100 := fun x hx => by
        rw [htk] at hx
        obtain ⟨y, hy, rfl⟩ := List.mem_map.1 hx
        have h1 := own'_size y
        have h2 := G.s y hy
        omega
      have hXz : X[a].size ≤ 100 := hXs _ (List.getElem_mem hXa)
      rw [if_neg c, if_neg c, if_pos (by omega), if_pos (by omega), rdOf_at X a hXa, spaces_eq k _ (by omega) X[a].size (by omega) (by omega), Option.bind_some, Int.toNat_natCast, Int.toNat_natCast, hL, bs_len]
      rw [bs_len] at hsp
      have := cut_loop f p m h H X (by omega) hXs (spc (bs X[a]) X[a].size) (by omega) b (by omega) X.length k 0 X (by omega) (by omega) rfl rfl rfl (fun x hx => by cases hx)
      rw [show ((0 : Nat) : Int) = 0 from rfl] at this
      rw [this, hX]
      have hmap : X.map bs = ls.map fun x => ownL (bs x) := by
        rw [htk, List.map_map]
        exact List.map_congr_left fun x _ => own'_bs x
      rw [hmap]
  | succ d ih =>
    intro k i X a b hid hk hX htk ha0 ha hb0 hb hab hst
    obtain ⟨k, rfl⟩ : ∃ m, k = m + 1 := ⟨k - 1, by omega⟩
    have hin : i < ls.length := by omega
    have hXi : i < X.length := by omega
    have hx := G.s _ (List.getElem_mem hin)
    have hz := own'_size ls[i]
    rw [drop_at ls i hin, List.map_cons, st] at hst
    rw [block_Text.l0, if_pos (by omega), if_pos (by omega), if_pos (by omega), rdOf_at ls i hin, G.o _ (List.getElem_mem hin), Option.bind_some, if_pos (by omega), Option.bind_some, Int.toNat_natCast, rdOf_set X i hXi, empty_eq k _ (by omega) (by omega), Option.bind_some, own'_bs, w64 (by omega) (by omega), show (i : Int) + 1 = ((i + 1 : Nat) : Int) by omega]
    have hX2 : (X.set i (own' ls[i])).length = ls.length := by rw [List.length_set]; exact hX
    have htk2 : (X.set i (own' ls[i])).take (i + 1) = (ls.take (i + 1)).map own' := by rw [set_take _ X i hXi, htk, take_add ls i hin, List.map_append, List.map_cons, List.map_nil]
    by_cases e : emp (ownL (bs ls[i])) = true
    · rw [if_pos e] at hst
      rw [if_pos e]
      exact ih k (i + 1) _ a b (by omega) (by omega) hX2 htk2 ha0 (by omega) hb0 (by omega) hab hst
    rw [if_neg e] at hst
    rw [if_neg e]
    by_cases c : a < 0
    · rw [if_pos c] at hst
      rw [if_pos c]
      exact ih k (i + 1) _ (i : Int) (i : Int) (by omega) (by omega) hX2 htk2 (by omega) (by omega) (by omega) (by omega) Iff.rfl hst
    · rw [if_neg c] at hst
      rw [if_neg c]
      exact ih k (i + 1) _ a (i : Int) (by omega) (by omega) hX2 htk2 ha0 (by omega) (by omega) (by omega) (by omega) hst
theorem text_eq (f p m : Bool) (h : ByteArray) (H : Hd h f p m) (ls : List ByteArray) (G : Good ls) (k : Nat) (hk : 1100 < k) :
    block_Text.f k h ls = some (strOfNums (txt f p m (ls.map fun x => ownL (bs x)))) := by
  have hn := G.n
  unfold block_Text.f
  rw [if_pos (by omega), if_pos (by omega), Int.toNat_natCast]
  have := own_loop f p m h H ls G ls.length k 0 (List.replicate ls.length ⟨#[]⟩) (-1) (-1) (by omega) (by omega) (List.length_replicate ..) rfl (by decide) (by decide) (by decide) (by decide) Iff.rfl (by rw [List.drop_zero])
  rw [show ((0 : Nat) : Int) = 0 from rfl] at this
  exact this
end Go.Proofs.Ytpinegfbcbfnoaa.Pure
