/- ResolveOne: what is a number is not null, nor true, nor a text; with a tag of another kind it is a text. For every input. -/
import Derived.Test.YtpigemgiegbblaaR6
import Derived.Test.YtpigemgiegbblaaQLawResolveOne
namespace Go.Proofs.Ytpigemgiegbblaa.Pure
open Go.RowKit Go.Proofs.Ytpigemgiegbblaa.Q Go.Proofs.YtpigemgiegbblaaW.PrintWords Go.Proofs.YtpigemgiegbblaaW.PrintLast
set_option linter.unusedVariables false
set_option linter.unusedSimpArgs false
theorem one_round (L : List ByteArray) (hL : L.length = 2) (i : Nat) (hi : i < 2) (hs : (rdOf ByteArray.empty L (i : Int)).size ≤ 140737488351232) (k : Nat) (hk : 140737488351232 + 100 < k) :
    correctorlaw15_ResolveOne.l0 (k + 2) L (i : Int) = correctorlaw15_ResolveOne.l0 k L ((i + 1 : Nat) : Int) := by
  have hlen : (i : Int) < (L.length : Int) := by omega
  have hz : (bs (⟨#[]⟩ : ByteArray)) = [] := rfl
  have hstr : (bs (⟨#[33, 33, 115, 116, 114]⟩ : ByteArray)) = [33, 33, 115, 116, 114] := rfl
  have hint : (bs (⟨#[33, 33, 105, 110, 116]⟩ : ByteArray)) = [33, 33, 105, 110, 116] := rfl
  have hflo : (bs (⟨#[33, 33, 102, 108, 111, 97, 116]⟩ : ByteArray)) = [33, 33, 102, 108, 111, 97, 116] := rfl
  rw [correctorlaw15_ResolveOne.l0, if_pos (by omega), if_pos (by omega), if_pos hlen]
  generalize hsd : rdOf ByteArray.empty L (i : Int) = s at *
  rw [int_eq s _ (by omega), Option.bind_some, kind_eq s hs _ (by omega), Option.bind_some, tag_eq _ s _ hs _ (by omega), Option.bind_some, tag_eq _ s _ hs _ (by omega), Option.bind_some, tag_eq _ s _ hs _ (by omega), Option.bind_some, hz, hstr]
  have hr := kd_range (bs s)
  have hi3 := kd_int (bs s)
  have t1 : tg [33, 33, 115, 116, 114] (bs s) true = 5 := by unfold tg; rw [if_neg (by decide), if_neg (by decide), if_neg (by decide), if_neg (by decide), if_neg (by decide)]
  have t2 : tg [] (bs s) false = 5 := rfl
  have t3 : tg [] (bs s) true = kd (bs s) := rfl
  have t4 : tg [33, 33, 105, 110, 116] (bs s) false = if kd (bs s) = 3 then 3 else 5 := rfl
  have t5 : tg [33, 33, 102, 108, 111, 97, 116] (bs s) false = if kd (bs s) = 3 ∨ kd (bs s) = 4 then 4 else 5 := rfl
  rw [t1, t2, t3, if_pos rfl, if_pos rfl, show (kd (bs s) != kd (bs s)) = false by simp]
  have e1 : ((intS (bs s)).2 != (kd (bs s) == 3)) = false := by
    by_cases h : kd (bs s) = 3
    · rw [hi3.2 h, h]; rfl
    · rw [Bool.eq_false_iff.2 (fun e => h (hi3.1 e)), beq_eq_false_iff_ne.2 h]; rfl
  rw [e1, if_neg (by decide), if_neg (by omega), if_neg (by omega), correctorlaw15_ResolveOne.j1, if_neg (by decide), if_pos (by omega), if_pos hlen, hsd, tag_eq _ s _ hs _ (by omega), Option.bind_some, tag_eq _ s _ hs _ (by omega), Option.bind_some, hint, hflo, t4, t5, w64 (by omega) (by omega), show (i : Int) + 1 = ((i + 1 : Nat) : Int) by omega]
  by_cases h : kd (bs s) = 3
  · rw [if_pos h, if_pos (show kd (bs s) = 3 ∨ kd (bs s) = 4 from .inl h), hi3.2 h]; rfl
  · rw [if_neg h, Bool.eq_false_iff.2 (fun e => h (hi3.1 e))]
    by_cases h4 : kd (bs s) = 4
    · rw [if_pos (show kd (bs s) = 3 ∨ kd (bs s) = 4 from .inr h4), h4]; rfl
    · rw [if_neg (show ¬ (kd (bs s) = 3 ∨ kd (bs s) = 4) by omega), beq_eq_false_iff_ne.2 h4]; rfl
theorem ResolveOne : correctorlaw15_ResolveOne.Pure := by
  intro ns raw hn1 hn2 hn3 hr
  obtain ⟨K, hK⟩ : ∃ K, 140737488351232 + 100 < K := ⟨140737488351232 + 101, by omega⟩
  refine ⟨K + 1 + 2 + 2, ?_⟩
  unfold correctorlaw15_ResolveOne.f
  obtain ⟨w, hw, hs⟩ := word_eq ns (K + 1 + 2 + 2) (by omega)
  rw [known15 _ (by omega), Option.bind_some, if_pos rfl, hw, Option.bind_some]
  have h0 := one_round [w, raw] rfl 0 (by omega) (show w.size ≤ _ by omega) (K + 1 + 2) (by omega)
  have h1 := one_round [w, raw] rfl 1 (by omega) (show raw.size ≤ _ by omega) (K + 1) (by omega)
  rw [show ((0 : Int)) = ((0 : Nat) : Int) from rfl, h0, h1, correctorlaw15_ResolveOne.l0, if_neg (by decide)]
end Go.Proofs.Ytpigemgiegbblaa.Pure
