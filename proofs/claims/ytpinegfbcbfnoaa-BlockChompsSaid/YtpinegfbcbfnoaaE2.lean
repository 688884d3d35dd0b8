/- Chapter 8: lines that are joined, lines that are folded. -/
import Derived.Test.YtpinegfbcbfnoaaE1
namespace Go.Proofs.Ytpinegfbcbfnoaa.Pure
open Go.RowKit Go.Proofs.Ytpinegfbcbfnoaa.Q Go.Proofs.YtpinegfbcbfnoaaW.PrintWords Go.Proofs.YtpinegfbcbfnoaaW.PrintLast
set_option linter.unusedVariables false
set_option linter.unusedSimpArgs false

theorem rdOf_at (l : List ByteArray) (i : Nat) (h : i < l.length) : rdOf ByteArray.empty l (i : Int) = l[i] := by
  unfold Go.Proofs.YtpinegfbcbfnoaaW.PrintWords.rdOf
  rw [Int.toNat_natCast, List.getD_eq_getElem?_getD, List.getElem?_eq_getElem h]
  rfl
theorem drop_at {α : Type} (l : List α) (i : Nat) (h : i < l.length) : l.drop i = l[i] :: l.drop (i + 1) := List.drop_eq_getElem_cons h
theorem rep_byt (n : Nat) : Byt (List.replicate n 10) := fun x hx => by rw [(List.mem_replicate.1 hx).2]; omega
theorem emp_nil (s : ByteArray) : s.toList = ([] : List UInt8) ↔ bs s = [] := by rw [bs_list]; rfl
/-- Lines, folded: behind the last that was not empty, and so many empty ones. -/
def fol : List (List Int) → List Int → Nat → List Int
  | [], _, _ => []
  | s :: t, last, k => if emp s = true then fol t last (k + 1) else (if last = [] then List.replicate k 10 else betw last s k) ++ (s ++ fol t s 0)
theorem fol_byt (l : List (List Int)) : ∀ last k, (∀ x ∈ l, Byt x) → Byt (fol l last k) := by
  induction l with
  | nil => intro last k _; exact Byt.nil
  | cons s t ih =>
    intro last k h
    have ht : ∀ x ∈ t, Byt x := fun x hx => h x (List.mem_cons_of_mem _ hx)
    rw [fol]
    split
    · exact ih _ _ ht
    · refine Byt.append ?_ ((h s (List.mem_cons_self ..)).append (ih _ _ ht))
      split
      · exact rep_byt _
      · exact (betw_byt _ _ _).1
theorem folded_loop (C : List ByteArray) (hC : C.length ≤ 40) (hs : ∀ x ∈ C, x.size ≤ 100) (d : Nat) : ∀ (k i g : Nat) (last acc : ByteArray), i + d = C.length → 200 + d < k → g ≤ i → acc.size ≤ 300 * i → last.size ≤ 100 →
    block_folded.l0 k last (g : Int) C (C.length : Int) (i : Int) acc = some (strOfNums (bs acc ++ fol ((C.map bs).drop i) (bs last) g)) := by
  induction d with
  | zero =>
    intro k i g last acc hi hk hg ha hl
    obtain ⟨k, rfl⟩ : ∃ m, k = m + 1 := ⟨k - 1, by omega⟩
    rw [block_folded.l0, if_neg (by omega), List.drop_eq_nil_of_le (by rw [List.length_map]; omega), fol, List.append_nil, nums_bs]
    rfl
  | succ d ih =>
    intro k i g last acc hi hk hg ha hl
    obtain ⟨k, rfl⟩ : ∃ m, k = m + 1 := ⟨k - 1, by omega⟩
    have hin : i < C.length := by omega
    have hx := hs _ (List.getElem_mem hin)
    have hd : (C.map bs).drop i = bs C[i] :: (C.map bs).drop (i + 1) := by
      rw [drop_at _ i (by rw [List.length_map]; exact hin), List.getElem_map]
    rw [block_folded.l0, if_pos (by omega), if_pos (by omega), if_pos (by omega), rdOf_at C i hin, empty_eq k _ (by omega) (by omega), Option.bind_some, w64 (x := (i : Int) + 1) (by omega) (by omega), show (i : Int) + 1 = ((i + 1 : Nat) : Int) by omega, w64 (x := (g : Int) + 1) (by omega) (by omega), show (g : Int) + 1 = ((g + 1 : Nat) : Int) by omega, hd, fol]
    generalize C[i] = s at *
    by_cases e : emp (bs s) = true
    · rw [if_pos e, if_pos e]
      exact ih k (i + 1) (g + 1) last acc (by omega) (by omega) (by omega) (by omega) hl
    rw [if_neg e, if_neg e]
    have fin (u : List Int) (hu : Byt u) (hz : u.length ≤ 100) : ((strings_Builder_WriteString.f acc (strOfNums u)).bind fun bt124 => ((strings_Builder_WriteString.f bt124.2.2 s).bind fun bt127 => (block_folded.l0 k s 0 C (C.length : Int) ((i + 1 : Nat) : Int) bt127.2.2))) = some (strOfNums (bs acc ++ (u ++ (bs s ++ fol ((C.map bs).drop (i + 1)) (bs s) 0)))) := by
      have z1 := bs_size _ _ (bs_nums u hu)
      rw [put_text acc _ (by omega) (by omega), Option.bind_some]
      show ((strings_Builder_WriteString.f (acc ++ strOfNums u) s).bind fun bt127 => (block_folded.l0 k s 0 C (C.length : Int) ((i + 1 : Nat) : Int) bt127.2.2)) = _
      have z2 : (acc ++ strOfNums u).size = acc.size + u.length := by rw [ByteArray.size_append, z1]
      rw [put_text _ s (by omega) (by omega), Option.bind_some]
      show block_folded.l0 k s ((0 : Nat) : Int) C (C.length : Int) ((i + 1 : Nat) : Int) ((acc ++ strOfNums u) ++ s) = _
      rw [ih k (i + 1) 0 s _ (by omega) (by omega) (by omega) (by rw [ByteArray.size_append, z2]; omega) hx, bs_append, bs_append, bs_nums u hu, List.append_assoc, List.append_assoc]
    by_cases c : bs last = []
    · rw [if_pos ((emp_nil last).2 c), if_pos c, feeds_eq g (by omega), Option.bind_some]
      exact fin _ (rep_byt g) (by rw [List.length_replicate]; omega)
    · have h0 : 0 < last.size := by
        rw [← bs_len]
        exact List.length_pos_iff.2 c
      have h1 : 0 < s.size := by
        rw [← bs_len]
        refine List.length_pos_iff.2 fun h => e ?_
        rw [h]
        rfl
      have hb := betw_byt (bs last) (bs s) g
      rw [if_neg (fun h => c ((emp_nil last).1 h)), if_neg c, between_eq last s g (by omega) h0 h1, Option.bind_some]
      exact fin _ hb.1 (by omega)
theorem folded_eq (C : List ByteArray) (hC : C.length ≤ 40) (hs : ∀ x ∈ C, x.size ≤ 100) (k : Nat) (hk : 300 < k) : block_folded.f k C = some (strOfNums (fol (C.map bs) [] 0)) := by
  unfold block_folded.f
  have := folded_loop C hC hs C.length k 0 0 ⟨#[]⟩ ⟨#[]⟩ (by omega) (by omega) (by omega) (by decide) (by decide)
  rw [List.drop_zero] at this
  exact this

/-- Lines, joined. -/
def joinL : List (List Int) → List Int
  | [] => []
  | x :: r => x ++ (r.map (10 :: ·)).flatten
theorem ints_flat (r : List ByteArray) : ints (Lib.joinTail [10] (r.map (·.data.toList))) = ((r.map bs).map (10 :: ·)).flatten := by
  unfold Lib.joinTail ints
  rw [List.map_flatten, List.map_map, List.map_map, List.map_map]
  rfl
theorem join_ints (l : List ByteArray) : ints (Lib.join (l.map (·.data.toList)) [10]) = joinL (l.map bs) := by
  cases l with
  | nil => rfl
  | cons x r =>
    rw [List.map_cons, Lib.join_cons, List.map_cons, joinL]
    unfold ints
    rw [List.map_append]
    exact congrArg (bs x ++ ·) (ints_flat r)
theorem flat_len (r : List (List Int)) (h : ∀ x ∈ r, x.length ≤ 100) : ((r.map (10 :: ·)).flatten).length ≤ 101 * r.length := by
  induction r with
  | nil => exact Nat.le_refl _
  | cons x t ih =>
    have h1 := h x (List.mem_cons_self ..)
    have h2 := ih fun y hy => h y (List.mem_cons_of_mem _ hy)
    rw [List.map_cons, List.flatten_cons, List.length_append, List.length_cons, List.length_cons]
    omega
theorem join_len (l : List (List Int)) (h : ∀ x ∈ l, x.length ≤ 100) : (joinL l).length ≤ 101 * l.length := by
  cases l with
  | nil => exact Nat.le_refl _
  | cons x t =>
    have h1 := h x (List.mem_cons_self ..)
    have h2 := flat_len t fun y hy => h y (List.mem_cons_of_mem _ hy)
    rw [joinL, List.length_append, List.length_cons]
    omega
theorem join_eq (l : List ByteArray) (hl : l.length ≤ 100) (hs : ∀ x ∈ l, x.size ≤ 100) : strings_Join.f l (⟨#[10]⟩ : ByteArray) = some (strOfNums (joinL (l.map bs))) := by
  have hi := join_ints l
  have hlen := join_len (l.map bs) fun x hx => by
    obtain ⟨y, hy, rfl⟩ := List.mem_map.1 hx
    rw [bs_len]
    exact hs y hy
  rw [List.length_map] at hlen
  have hlen2 : (Lib.join (l.map (·.data.toList)) [10]).length = (joinL (l.map bs)).length := by rw [← hi]; exact (List.length_map _).symm
  unfold strings_Join.f
  show (if (Lib.join (l.map (·.data.toList)) [10]).length ≤ 140737488355328 then _ else _) = _
  rw [if_pos (by omega), if_pos (by omega)]
  congr 1
  apply bs_inj
  show ints (Lib.join (l.map (·.data.toList)) [10]) = _
  rw [bs_nums, hi]
  rw [← hi]
  intro x hx
  obtain ⟨b, _, rfl⟩ := List.mem_map.1 hx
  have := b.toNat_lt
  omega
theorem fol_len (l : List (List Int)) (h : ∀ x ∈ l, x.length ≤ 100) : ∀ last k, (fol l last k).length ≤ 102 * l.length + k := by
  induction l with
  | nil => intro last k; exact Nat.zero_le _
  | cons s t ih =>
    intro last k
    have h1 := h s (List.mem_cons_self ..)
    have h2 := ih fun y hy => h y (List.mem_cons_of_mem _ hy)
    rw [fol, List.length_cons]
    split
    · have := h2 last (k + 1)
      omega
    · have := h2 s 0
      have hb := (betw_byt last s k).2
      rw [List.length_append, List.length_append]
      split
      · rw [List.length_replicate]; omega
      · omega
end Go.Proofs.Ytpinegfbcbfnoaa.Pure
