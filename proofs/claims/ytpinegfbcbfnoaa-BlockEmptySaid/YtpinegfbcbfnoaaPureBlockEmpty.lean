/- BlockEmpty: where all lines are empty only + leaves anything. For every input. -/
import Derived.Test.YtpinegfbcbfnoaaE4
import Derived.Test.YtpinegfbcbfnoaaQLawBlockEmpty
namespace Go.Proofs.Ytpinegfbcbfnoaa.Pure
open Go.RowKit Go.Proofs.Ytpinegfbcbfnoaa.Q Go.Proofs.YtpinegfbcbfnoaaW.PrintWords Go.Proofs.YtpinegfbcbfnoaaW.PrintLast
set_option linter.unusedVariables false
set_option linter.unusedSimpArgs false
theorem empty_law (a1 : Int) (n : Nat) (hn : n ≤ 12) (d : Nat) : ∀ (k i : Nat) (ls : List ByteArray) (w : ByteArray), i + d = n → 1300 + d < k → ls.length = i → bs w = List.replicate i 10 →
    (∀ x ∈ ls, x.size ≤ 100 ∧ Asc (bs x) ∧ emp (ownL (bs x)) = true) → correctorlaw8_BlockEmpty.l0 k (n : Int) a1 ls w (i : Int) = some true := by
  induction d with
  | zero =>
    intro k i ls w hi hk hl hw hx
    obtain ⟨k, rfl⟩ : ∃ m, k = m + 1 := ⟨k - 1, by omega⟩
    have hg : Good ls := good_asc ls (by omega) fun x h => ⟨(hx x h).1, (hx x h).2.1⟩
    have he : ∀ x ∈ ls.map (fun x => ownL (bs x)), emp x = true := fun x h => by
      obtain ⟨y, hy, rfl⟩ := List.mem_map.1 h
      exact (hx y hy).2.2
    have hr : strOfNums (List.replicate ls.length 10) = w := by rw [hl, ← hw, nums_bs]
    have h0 : (strOfNums []).toList = ([] : List UInt8) := by rw [bs_list]; rfl
    rw [correctorlaw8_BlockEmpty.l0, if_neg (by omega), text_eq _ _ _ _ head_lit ls hg k (by omega), Option.bind_some, txt_emp _ _ _ _ he, if_neg Bool.false_ne_true, if_pos h0,
      text_eq _ _ _ _ head_fold_strip ls hg k (by omega), Option.bind_some, txt_emp _ _ _ _ he, if_neg Bool.false_ne_true, if_pos h0,
      text_eq _ _ _ _ head_fold_keep ls hg k (by omega), Option.bind_some, txt_emp _ _ _ _ he, if_pos rfl, List.length_map, hr, if_pos rfl,
      text_eq _ _ _ _ head_lit_keep ls hg k (by omega), Option.bind_some, txt_emp _ _ _ _ he, if_pos rfl, List.length_map, hr]
    congr 1
    exact beq_self_eq_true _
  | succ d ih =>
    intro k i ls w hi hk hl hw hx
    obtain ⟨k, rfl⟩ : ∃ m, k = m + 1 := ⟨k - 1, by omega⟩
    obtain ⟨t, ht, t0, t1⟩ := within8 (wrap64 (a1 + (i : Int))) 5 (by decide) (by decide)
    obtain ⟨t, rfl⟩ : ∃ q : Nat, t = (q : Int) := ⟨t.toNat, by omega⟩
    have hb : bs ((⟨#[32, 32, 32, 32, 32, 32, 32]⟩ : ByteArray).extract 0 t) = List.replicate t 32 := spaces_bs _ t rfl (show t ≤ 7 by omega)
    have hz := bs_size _ _ hb
    rw [List.length_replicate] at hz
    have hz2 := bs_size _ _ hw
    rw [List.length_replicate] at hz2
    have hb2 : bs (((⟨#[32, 32, 32, 32, 32, 32, 32]⟩ : ByteArray).extract 0 t) ++ (⟨#[10]⟩ : ByteArray)) = List.replicate t 32 ++ [10] := by rw [bs_append, hb]; rfl
    rw [correctorlaw8_BlockEmpty.l0, if_pos (by omega), ht, Option.bind_some, if_pos (by omega), if_pos (by omega), Int.toNat_natCast, if_pos (by omega), if_pos (by omega), if_pos (by omega), w64 (x := (i : Int) + 1) (by omega) (by omega), show (i : Int) + 1 = ((i + 1 : Nat) : Int) by omega]
    refine ih k (i + 1) _ _ (by omega) (by omega) (by rw [List.length_append, hl]; rfl) ?_ ?_
    · rw [bs_append, hw, List.replicate_succ']
      rfl
    · intro x h
      rcases List.mem_append.1 h with h1 | h1
      · exact hx x h1
      · rw [List.mem_singleton.1 h1, hb2]
        refine ⟨by rw [ByteArray.size_append, hz]; show t + 1 ≤ 100; omega, asc_spaces t [] rfl, ?_⟩
        rw [ownL_spaces]
        show emp (List.replicate t 32 ++ []) = true
        rw [List.append_nil]
        exact emp_spaces t
theorem BlockEmpty : correctorlaw8_BlockEmpty.Pure := by
  intro a0 a1 _ _
  obtain ⟨K, hK⟩ : ∃ K, 3000 < K := ⟨3001, by omega⟩
  refine ⟨K, ?_⟩
  obtain ⟨n, hn, n0, n1⟩ := within8 a0 12 (by decide) (by decide)
  obtain ⟨n, rfl⟩ : ∃ q : Nat, n = (q : Int) := ⟨n.toNat, by omega⟩
  unfold correctorlaw8_BlockEmpty.f
  rw [known8 K (by omega), Option.bind_some, if_pos rfl, hn, Option.bind_some]
  exact empty_law a1 n (by omega) n K 0 [] ⟨#[]⟩ (by omega) (by omega) rfl rfl (fun x hx => by cases hx)
end Go.Proofs.Ytpinegfbcbfnoaa.Pure
