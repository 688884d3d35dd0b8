/- ResolveKinds: of any text its kind, and its number, is the document's, with any tag. For every input. -/
import Derived.Test.YtpigemgiegbblaaR6
import Derived.Test.YtpigemgiegbblaaR5
import Derived.Test.YtpigemgiegbblaaQLawResolveKinds
namespace Go.Proofs.Ytpigemgiegbblaa.Pure
open Go.RowKit Go.Proofs.Ytpigemgiegbblaa.Q Go.Proofs.YtpigemgiegbblaaW.PrintWords Go.Proofs.YtpigemgiegbblaaW.PrintLast
set_option linter.unusedVariables false
set_option linter.unusedSimpArgs false
theorem tags_go (p : Bool) (L G : List ByteArray) (i : Nat) (hi : i < L.length) (hL : L.length ≤ 100) (hG : G.length ≤ 100) (hs : (rdOf ByteArray.empty L (i : Int)).size ≤ 100) (d : Nat) : ∀ (k j : Nat), j + d = G.length → 200 < k →
    correctorlaw15_ResolveKinds.l1 (k + d + 1) p L G (i : Int) (j : Int) = correctorlaw15_ResolveKinds.l0 k p L G ((i + 1 : Nat) : Int) := by
  induction d with
  | zero =>
    intro k j hj hk
    rw [correctorlaw15_ResolveKinds.l1, if_neg (by omega), w64 (by omega) (by omega), show (i : Int) + 1 = ((i + 1 : Nat) : Int) by omega]
    try rfl
  | succ d ih =>
    intro k j hj hk
    rw [correctorlaw15_ResolveKinds.l1, if_pos (by omega), if_pos (by omega), if_pos (by omega), if_pos (by omega), tag_eq _ _ _ (by omega) _ (by omega), reftag_eq _ _ _ (by omega) _ (by omega), Option.bind_some, Option.bind_some, if_pos rfl, w64 (by omega) (by omega), show (j : Int) + 1 = ((j + 1 : Nat) : Int) by omega, show k + (d + 1) = k + d + 1 by omega]
    exact ih k (j + 1) (by omega) hk
theorem kinds_go (p : Bool) (L G : List ByteArray) (hL : L.length ≤ 100) (hG : G.length ≤ 100) (hs : ∀ i : Nat, i < L.length → (rdOf ByteArray.empty L (i : Int)).size ≤ 100) (d : Nat) : ∀ (k i : Nat), i + d = L.length → 300 + d * 200 < k →
    correctorlaw15_ResolveKinds.l0 k p L G (i : Int) = some true := by
  induction d with
  | zero =>
    intro k i hi hk
    obtain ⟨k, rfl⟩ : ∃ m, k = m + 1 := ⟨k - 1, by omega⟩
    rw [correctorlaw15_ResolveKinds.l0, if_neg (by omega)]
  | succ d ih =>
    intro k i hi hk
    obtain ⟨k, rfl⟩ : ∃ m, k = m + G.length + 1 + 1 + 1 := ⟨k - (G.length + 3), by omega⟩
    have h := hs i (by omega)
    rw [correctorlaw15_ResolveKinds.l0, if_pos (by omega), if_pos (by omega), int_eq _ _ (by omega), refint_eq _ (by omega) _ (by omega), Option.bind_some, Option.bind_some, if_pos rfl, kind_eq _ (by omega) _ (by omega), refkind_eq _ (by omega) _ (by omega), Option.bind_some, Option.bind_some, if_neg (by simp), correctorlaw15_ResolveKinds.j1, if_neg (by simp)]
    rw [show (0 : Int) = ((0 : Nat) : Int) from rfl, tags_go p L G i (by omega) hL hG h G.length k 0 (by omega) (by omega)]
    exact ih k (i + 1) (by omega) (by omega)
theorem ResolveKinds : correctorlaw15_ResolveKinds.Pure := by
  intro ns raw tag p hn1 hn2 hn3 hr ht
  obtain ⟨K, hK⟩ : ∃ K, 300 + 35 * 200 < K := ⟨300 + 35 * 200 + 1, by omega⟩
  refine ⟨K, ?_⟩
  unfold correctorlaw15_ResolveKinds.f
  obtain ⟨w, hw, hs⟩ := word_eq ns K (by omega)
  rw [known15 _ (by omega), Option.bind_some, if_pos rfl]
  by_cases c : (raw.size : Int) > 40
  · rw [if_pos c]
  rw [if_neg c, hw, Option.bind_some]
  refine kinds_go p _ _ (by simp) (by simp) ?_ 35 K 0 rfl hK
  intro i hi
  simp only [List.length_cons, List.length_nil] at hi
  by_cases h0 : i = 0
  · subst h0; exact Nat.le_trans hs (by decide)
  by_cases h1 : i = 1
  · subst h1; show raw.size ≤ 100; omega
  obtain ⟨m, rfl⟩ : ∃ m, i = m + 2 := ⟨i - 2, by omega⟩
  have key : ∀ m : Nat, m < 33 → (rdOf ByteArray.empty [(⟨#[]⟩ : ByteArray), (⟨#[126]⟩ : ByteArray), (⟨#[110, 117, 108, 108]⟩ : ByteArray), (⟨#[78, 117, 108, 108]⟩ : ByteArray), (⟨#[78, 85, 76, 76]⟩ : ByteArray), (⟨#[116, 114, 117, 101]⟩ : ByteArray), (⟨#[84, 114, 117, 101]⟩ : ByteArray), (⟨#[84, 82, 85, 69]⟩ : ByteArray), (⟨#[102, 97, 108, 115, 101]⟩ : ByteArray), (⟨#[70, 97, 108, 115, 101]⟩ : ByteArray), (⟨#[70, 65, 76, 83, 69]⟩ : ByteArray), (⟨#[46, 105, 110, 102]⟩ : ByteArray), (⟨#[45, 46, 73, 78, 70]⟩ : ByteArray), (⟨#[43, 46, 73, 110, 102]⟩ : ByteArray), (⟨#[46, 110, 97, 110]⟩ : ByteArray), (⟨#[46, 78, 97, 78]⟩ : ByteArray), (⟨#[46, 78, 65, 78]⟩ : ByteArray), (⟨#[110, 85, 76, 76]⟩ : ByteArray), (⟨#[57, 50, 50, 51, 51, 55, 50, 48, 51, 54, 56, 53, 52, 55, 55, 53, 56, 48, 55]⟩ : ByteArray), (⟨#[57, 50, 50, 51, 51, 55, 50, 48, 51, 54, 56, 53, 52, 55, 55, 53, 56, 48, 56]⟩ : ByteArray), (⟨#[45, 57, 50, 50, 51, 51, 55, 50, 48, 51, 54, 56, 53, 52, 55, 55, 53, 56, 48, 56]⟩ : ByteArray), (⟨#[45, 57, 50, 50, 51, 51, 55, 50, 48, 51, 54, 56, 53, 52, 55, 55, 53, 56, 48, 57]⟩ : ByteArray), (⟨#[48, 120, 55, 102, 102, 102, 102, 102, 102, 102, 102, 102, 102, 102, 102, 102, 102, 102]⟩ : ByteArray), (⟨#[48, 120, 56, 48, 48, 48, 48, 48, 48, 48, 48, 48, 48, 48, 48, 48, 48, 48]⟩ : ByteArray), (⟨#[48, 111, 55, 55, 55]⟩ : ByteArray), (⟨#[48, 111, 56]⟩ : ByteArray), (⟨#[49, 101, 53]⟩ : ByteArray), (⟨#[46, 53]⟩ : ByteArray), (⟨#[53, 46]⟩ : ByteArray), (⟨#[46]⟩ : ByteArray), (⟨#[49, 46, 53, 101, 45, 51]⟩ : ByteArray), (⟨#[43, 49]⟩ : ByteArray), (⟨#[45]⟩ : ByteArray)] (m : Int)).size ≤ 100 := by decide +kernel
  exact key m (by omega)
end Go.Proofs.Ytpigemgiegbblaa.Pure
