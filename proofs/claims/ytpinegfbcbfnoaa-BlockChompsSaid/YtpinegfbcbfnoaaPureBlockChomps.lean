/- BlockChomps: of the same lines three heads differ in their ends alone. For every input. -/
import Derived.Test.YtpinegfbcbfnoaaE5
import Derived.Test.YtpinegfbcbfnoaaQLawBlockChomps
namespace Go.Proofs.Ytpinegfbcbfnoaa.Pure
open Go.RowKit Go.Proofs.Ytpinegfbcbfnoaa.Q Go.Proofs.YtpinegfbcbfnoaaW.PrintWords Go.Proofs.YtpinegfbcbfnoaaW.PrintLast
set_option linter.unusedVariables false
set_option linter.unusedSimpArgs false
theorem nums_two (a b : List Int) : strOfNums (a ++ b) = strOfNums a ++ strOfNums b := by
  apply ByteArray.ext
  apply Array.ext'
  unfold strOfNums
  rw [ByteArray.data_append, Array.toList_append]
  simp
theorem nums_size (a : List Int) : (strOfNums a).size = a.length := by
  rw [← size_list]
  unfold strOfNums
  simp
/-- What heads do: their ends differ. -/
theorem txt_ends (f : Bool) (L : List (List Int)) (hL : L.length ≤ 40) (hs : ∀ x ∈ L, x.length ≤ 100) : (∀ p m, txt f p m L = if p = true then List.replicate L.length 10 else []) ∨
    ∃ B j, B.length ≤ 10000 ∧ j ≤ 100 ∧ ∀ p m, txt f p m L = B ++ (if m = true then [] else if p = true then List.replicate (1 + j) 10 else [10]) := by
  by_cases c : (st L 0 (-1) (-1)).1 < 0
  · left
    intro p m
    unfold txt
    rw [if_pos c]
  · right
    have hT : ∀ y ∈ (L.map (cutL (spc (L.getD (st L 0 (-1) (-1)).1.toNat []) (L.getD (st L 0 (-1) (-1)).1.toNat []).length))).take ((st L 0 (-1) (-1)).2.toNat + 1), y.length ≤ 100 := fun y hy => by
      obtain ⟨x, hx, rfl⟩ := List.mem_map.1 (List.mem_of_mem_take hy)
      have := hs x hx
      unfold cutL
      rw [List.length_drop]
      omega
    have hn : ((L.map (cutL (spc (L.getD (st L 0 (-1) (-1)).1.toNat []) (L.getD (st L 0 (-1) (-1)).1.toNat []).length))).take ((st L 0 (-1) (-1)).2.toNat + 1)).length ≤ 40 := by
      rw [List.length_take, List.length_map]
      omega
    refine ⟨_, L.length - 1 - (st L 0 (-1) (-1)).2.toNat, ?_, by omega, fun p m => by unfold txt; rw [if_neg c]⟩
    have h1 := fol_len _ hT [] 0
    have h2 := join_len _ hT
    split <;> omega
theorem line_bits : ∀ t : Nat, t < 7 → ∀ a : Nat, a < 9 → ∀ b : Nat, b < 4 →
    strings_IndexAny.eAsc (((((⟨#[32, 32, 32, 32, 32, 32, 32, 32, 32, 32]⟩ : ByteArray).extract 0 t) ++ (rdOf ByteArray.empty ([(⟨#[]⟩ : ByteArray), (⟨#[]⟩ : ByteArray), (⟨#[97]⟩ : ByteArray), (⟨#[116, 119, 111, 32, 119, 111, 114, 100, 115]⟩ : ByteArray), (⟨#[9]⟩ : ByteArray), (⟨#[45, 32, 98]⟩ : ByteArray), (⟨#[32, 120]⟩ : ByteArray), (⟨#[195, 169]⟩ : ByteArray), (⟨#[35, 32, 99]⟩ : ByteArray)] : List ByteArray) (a : Int))) ++ (rdOf ByteArray.empty ([(⟨#[10]⟩ : ByteArray), (⟨#[13, 10]⟩ : ByteArray), (⟨#[10]⟩ : ByteArray), (⟨#[13]⟩ : ByteArray)] : List ByteArray) (b : Int))).data.toList) = true := by decide +kernel
theorem words_size : ∀ a : Nat, a < 9 → (rdOf ByteArray.empty ([(⟨#[]⟩ : ByteArray), (⟨#[]⟩ : ByteArray), (⟨#[97]⟩ : ByteArray), (⟨#[116, 119, 111, 32, 119, 111, 114, 100, 115]⟩ : ByteArray), (⟨#[9]⟩ : ByteArray), (⟨#[45, 32, 98]⟩ : ByteArray), (⟨#[32, 120]⟩ : ByteArray), (⟨#[195, 169]⟩ : ByteArray), (⟨#[35, 32, 99]⟩ : ByteArray)] : List ByteArray) (a : Int)).size ≤ 9 := by decide +kernel
theorem breaks_size : ∀ b : Nat, b < 4 → (rdOf ByteArray.empty ([(⟨#[10]⟩ : ByteArray), (⟨#[13, 10]⟩ : ByteArray), (⟨#[10]⟩ : ByteArray), (⟨#[13]⟩ : ByteArray)] : List ByteArray) (b : Int)).size ≤ 2 := by decide +kernel
theorem own_e (s : ByteArray) (hs : s.size ≤ 100) (he : strings_IndexAny.eAsc s.data.toList = true) : block_own.f s = some (own' s) := by
  refine own_of s (by omega) ?_
  unfold strings_IndexAny.f
  rw [if_pos (by omega), if_pos (by decide)]
  by_cases h : (s.data.toList.all fun b => decide (b.toNat < 128)) = true
  · rw [if_pos h, if_pos (by decide)]
  · rw [if_neg h, if_pos rfl, if_pos he]
theorem lines_go (ns : List Int) (d : Nat) : ∀ (k i : Nat) (ls : List ByteArray), i + d = 20 → 100 + 2 * d < k → i ≤ ns.length → ls.length = i → (∀ x ∈ ls, x.size ≤ 100 ∧ block_own.f x = some (own' x)) →
    ∃ r, correctorlaw8_Lines.l0 k ns ls (i : Int) = some r ∧ r.length ≤ 20 ∧ ∀ x ∈ r, x.size ≤ 100 ∧ block_own.f x = some (own' x) := by
  have fin (k i : Nat) (ls : List ByteArray) (hk : 10 < k) (hi : i ≤ 20) (he : i = 20 ∨ ¬ i < ns.length) (hl : ls.length = i) (hx : ∀ x ∈ ls, x.size ≤ 100 ∧ block_own.f x = some (own' x)) :
      ∃ r, correctorlaw8_Lines.l0 k ns ls (i : Int) = some r ∧ r.length ≤ 20 ∧ ∀ x ∈ r, x.size ≤ 100 ∧ block_own.f x = some (own' x) := by
    obtain ⟨k, rfl⟩ : ∃ m, k = m + 2 := ⟨k - 2, by omega⟩
    have e : correctorlaw8_Lines.j1 (k + 1) ns ls (i : Int) false = some ls := by rw [correctorlaw8_Lines.j1, if_neg Bool.false_ne_true]
    refine ⟨ls, ?_, by omega, hx⟩
    rw [correctorlaw8_Lines.l0]
    by_cases c : (i : Int) < (ns.length : Int)
    · rw [if_pos c, decide_eq_false (by omega)]
      exact e
    · rw [if_neg c]
      exact e
  induction d with
  | zero =>
    intro k i ls hi hk hn hl hx
    exact fin k i ls (by omega) (by omega) (by omega) hl hx
  | succ d ih =>
    intro k i ls hi hk hn hl hx
    by_cases c : (i : Int) < (ns.length : Int)
    · obtain ⟨k, rfl⟩ : ∃ m, k = m + 2 := ⟨k - 2, by omega⟩
      obtain ⟨t, ht, t0, t1⟩ := within8 (rd ns (i : Int)) 7 (by decide) (by decide)
      obtain ⟨t, rfl⟩ : ∃ q : Nat, t = (q : Int) := ⟨t.toNat, by omega⟩
      obtain ⟨a, ha, a0, a1⟩ := within8 (wrap64 (Int.tdiv (rd ns (i : Int)) 7)) 9 (by decide) (by decide)
      obtain ⟨a, rfl⟩ : ∃ q : Nat, a = (q : Int) := ⟨a.toNat, by omega⟩
      obtain ⟨b, hb, b0, b1⟩ := within8 (wrap64 (Int.tdiv (rd ns (i : Int)) 63)) 4 (by decide) (by decide)
      obtain ⟨b, rfl⟩ : ∃ q : Nat, b = (q : Int) := ⟨b.toNat, by omega⟩
      have he := line_bits t (by omega) a (by omega) b (by omega)
      have z1 := words_size a (by omega)
      have z2 := breaks_size b (by omega)
      have z0 : ((⟨#[32, 32, 32, 32, 32, 32, 32, 32, 32, 32]⟩ : ByteArray).extract 0 t).size ≤ 10 := by
        rw [ByteArray.size_extract]
        show min t 10 - 0 ≤ 10
        omega
      rw [correctorlaw8_Lines.l0, if_pos c, decide_eq_true (by omega), correctorlaw8_Lines.j1, if_pos rfl, if_pos (by omega), if_pos c, ht, Option.bind_some, if_pos (by omega), if_pos (by omega), Option.bind_some, ha, Option.bind_some, if_pos (by omega), if_pos (by simp only [List.length_cons, List.length_nil]; omega), Int.toNat_natCast]
      rw [if_pos (by omega), Option.bind_some, hb, Option.bind_some, if_pos (by omega), if_pos (by simp only [List.length_cons, List.length_nil]; omega), if_pos (by rw [ByteArray.size_append]; omega), if_pos (by omega), w64 (x := (i : Int) + 1) (by omega) (by omega), show (i : Int) + 1 = ((i + 1 : Nat) : Int) by omega]
      refine ih k (i + 1) _ (by omega) (by omega) (by omega) (by rw [List.length_append, hl]; rfl) ?_
      intro x h
      rcases List.mem_append.1 h with h1 | h1
      · exact hx x h1
      · rw [List.mem_singleton.1 h1]
        have hz : (((⟨#[32, 32, 32, 32, 32, 32, 32, 32, 32, 32]⟩ : ByteArray).extract 0 t ++ (rdOf ByteArray.empty ([(⟨#[]⟩ : ByteArray), (⟨#[]⟩ : ByteArray), (⟨#[97]⟩ : ByteArray), (⟨#[116, 119, 111, 32, 119, 111, 114, 100, 115]⟩ : ByteArray), (⟨#[9]⟩ : ByteArray), (⟨#[45, 32, 98]⟩ : ByteArray), (⟨#[32, 120]⟩ : ByteArray), (⟨#[195, 169]⟩ : ByteArray), (⟨#[35, 32, 99]⟩ : ByteArray)] : List ByteArray) (a : Int))) ++ (rdOf ByteArray.empty ([(⟨#[10]⟩ : ByteArray), (⟨#[13, 10]⟩ : ByteArray), (⟨#[10]⟩ : ByteArray), (⟨#[13]⟩ : ByteArray)] : List ByteArray) (b : Int))).size ≤ 100 := by
          rw [ByteArray.size_append, ByteArray.size_append]
          omega
        exact ⟨hz, own_e _ hz he⟩
    · exact fin k i ls (by omega) (by omega) (by omega) hl hx
theorem chomps_end (h h1 h2 : ByteArray) (f : Bool) (e1 : h ++ (⟨#[45]⟩ : ByteArray) = h1) (e2 : h ++ (⟨#[43]⟩ : ByteArray) = h2) (hz : h.size ≤ 10) (H : Hd h f false false) (H1 : Hd h1 f false true) (H2 : Hd h2 f true false) (ls : List ByteArray) (hl : ls.length ≤ 20)
    (hx : ∀ x ∈ ls, x.size ≤ 100 ∧ block_own.f x = some (own' x)) (k : Nat) (hk : 2000 < k) : correctorlaw8_BlockChomps.j0 k ls h = some true := by
  obtain ⟨k, rfl⟩ : ∃ m, k = m + 1 := ⟨k - 1, by omega⟩
  have G : Good ls := ⟨by omega, fun x h => (hx x h).1, fun x h => (hx x h).2⟩
  have hLl : (ls.map fun x => ownL (bs x)).length = ls.length := List.length_map _
  have hLs : ∀ x ∈ ls.map (fun x => ownL (bs x)), x.length ≤ 100 := fun x h => by
    obtain ⟨y, hy, rfl⟩ := List.mem_map.1 h
    have h1 := ownL_len (bs y)
    have h2 := (hx y hy).1
    rw [bs_len] at h1
    omega
  have n0 : (strOfNums []).toList = ([] : List UInt8) := by rw [bs_list]; rfl
  rw [correctorlaw8_BlockChomps.j0, if_pos (by omega), e1, e2, text_eq f false true h1 H1 ls G k (by omega), Option.bind_some, text_eq f false false h H ls G k (by omega), Option.bind_some, text_eq f true false h2 H2 ls G k (by omega), Option.bind_some]
  rcases txt_ends f (ls.map fun x => ownL (bs x)) (by omega) hLs with ht | ⟨B, j, hB, hj, ht⟩
  · rw [ht, ht, ht, if_neg Bool.false_ne_true, if_pos rfl, if_pos n0, if_pos n0, nums_size, List.length_replicate, hLl]
    congr 1
    exact beq_self_eq_true _
  · rw [ht, ht, ht, if_pos rfl, if_neg Bool.false_ne_true, if_neg Bool.false_ne_true, if_neg Bool.false_ne_true, if_pos rfl, List.append_nil, nums_two, nums_two]
    have z1 := nums_size B
    have z2 := nums_size (List.replicate (1 + j) 10)
    rw [List.length_replicate] at z2
    have e3 : strOfNums [10] = (⟨#[10]⟩ : ByteArray) := rfl
    have z3 : (strOfNums B ++ (⟨#[10]⟩ : ByteArray)).size = B.length + 1 := by rw [ByteArray.size_append, z1]; rfl
    have z4 : (strOfNums B ++ strOfNums (List.replicate (1 + j) 10)).size = B.length + (1 + j) := by rw [ByteArray.size_append, z1, z2]
    have hne : ¬ (strOfNums B ++ (⟨#[10]⟩ : ByteArray)).toList = ([] : List UInt8) := fun h => by
      have h3 := bs_size _ _ ((emp_nil _).1 h)
      rw [z3] at h3
      simp at h3
    have hcut : (strOfNums B ++ strOfNums (List.replicate (1 + j) 10)).extract 0 (B.length + 1) = strOfNums B ++ (⟨#[10]⟩ : ByteArray) := by
      apply bs_inj
      have hbl : (bs (strOfNums B)).length = B.length := by rw [bs_len, z1]
      rw [bs_cut, List.drop_zero, Nat.sub_zero, bs_append, bs_append, bs_nums _ (rep_byt _), List.take_append, hbl, List.take_of_length_le (by omega), show B.length + 1 - B.length = 1 by omega, Nat.add_comm 1 j, List.replicate_succ]
      rfl
    rw [e3]
    have tail : (if (strOfNums B).size + 1 ≤ 9223372036854775807 then (if (strOfNums B ++ (⟨#[10]⟩ : ByteArray)).toList = (strOfNums B ++ (⟨#[10]⟩ : ByteArray)).toList then (if ((strOfNums B ++ strOfNums (List.replicate (1 + j) 10)).size : Int) ≥ ((strOfNums B ++ (⟨#[10]⟩ : ByteArray)).size : Int) then (if 0 ≤ ((strOfNums B ++ (⟨#[10]⟩ : ByteArray)).size : Int) then (if ((strOfNums B ++ (⟨#[10]⟩ : ByteArray)).size : Int) ≤ ((strOfNums B ++ strOfNums (List.replicate (1 + j) 10)).size : Int) then (some (((strOfNums B ++ strOfNums (List.replicate (1 + j) 10)).extract 0 (((strOfNums B ++ (⟨#[10]⟩ : ByteArray)).size : Int) : Int).toNat).toList == (strOfNums B ++ (⟨#[10]⟩ : ByteArray)).toList)) else (none)) else (none)) else (some false)) else (some false)) else (none)) = some true := by
      rw [if_pos (by omega), if_pos rfl, z3, z4, if_pos (by omega), if_pos (by omega), if_pos (by omega), Int.toNat_natCast, hcut]
      congr 1
      exact beq_self_eq_true _
    by_cases c : (strOfNums B).toList = ([] : List UInt8)
    · rw [if_pos c, if_neg hne]
      exact tail
    · rw [if_neg c]
      exact tail
theorem BlockChomps : correctorlaw8_BlockChomps.Pure := by
  intro ns a1 _ _ _
  obtain ⟨K, hK⟩ : ∃ K, 3000 < K := ⟨3001, by omega⟩
  refine ⟨K, ?_⟩
  obtain ⟨r, hr, hl, hx⟩ := lines_go ns 20 K 0 [] (by omega) (by omega) (by omega) rfl (fun x hx => by cases hx)
  unfold correctorlaw8_BlockChomps.f correctorlaw8_Lines.f
  rw [show ((0 : Nat) : Int) = 0 from rfl] at hr
  rw [known8 K (by omega), Option.bind_some, if_pos rfl, hr, Option.bind_some]
  cases a1
  · rw [if_neg Bool.false_ne_true]
    exact chomps_end _ _ _ false rfl rfl (by decide) head_lit head_lit_strip head_lit_keep r hl hx K (by omega)
  · rw [if_pos rfl]
    exact chomps_end _ _ _ true rfl rfl (by decide) head_fold head_fold_strip head_fold_keep r hl hx K (by omega)
end Go.Proofs.Ytpinegfbcbfnoaa.Pure
