/- Chapter 7: the law's own helpers. -/
import Derived.Test.YtabdoommjdgogaaD2
import Derived.Test.YtabdoommjdgogaaQcorrectorlaw7
namespace Go.Proofs.Ytabdoommjdgogaa.Pure
open Go.RowKit Go.Proofs.Ytabdoommjdgogaa.Q Go.Proofs.YtabdoommjdgogaaW.PrintWords Go.Proofs.YtabdoommjdgogaaW.PrintLast
set_option linter.unusedVariables false
set_option linter.unusedSimpArgs false
theorem known7 (K : Nat) (hK : 100 < K) : correctorlaw7_known.f K = some true := by
  have e : qt 16 (⟨#[39, 97, 39, 39, 98, 39]⟩ : ByteArray) = (⟨#[97, 39, 98]⟩, [], true) := by decide +kernel
  unfold correctorlaw7_known.f
  rw [text_eq K 16 _ (by decide) (by show 2 * 6 + 60 < K; omega), Option.bind_some, e]
  have h : (⟨#[97, 39, 98]⟩ : ByteArray).toList = ([97, 39, 98] : List UInt8) := by rw [bs_list]; rfl
  rw [if_pos h]
  rfl
theorem within7 (at_ n : Int) (h0 : 0 < n) (hn : n < 1000000) : ∃ t, correctorlaw7_within.f at_ n = some t ∧ 0 ≤ t ∧ t < n := by
  unfold correctorlaw7_within.f
  rw [if_neg (by omega)]
  have h1 := Int.lt_tmod_of_pos at_ h0
  have h2 := Int.tmod_lt_of_pos at_ h0
  by_cases c : Int.tmod at_ n < 0
  · rw [if_pos c, w64 (by omega) (by omega)]
    exact ⟨_, rfl, by omega, by omega⟩
  · rw [if_neg c]
    exact ⟨_, rfl, by omega, by omega⟩
theorem ints_same (l : List Int) (hl : l.length ≤ 100000) (d : Nat) : ∀ (k n : Nat), n + d = l.length → d < k → correctorlaw7_ints.l0 k l l (n : Int) = some true := by
  induction d with
  | zero =>
    intro k n hn hk
    obtain ⟨k, rfl⟩ : ∃ m, k = m + 1 := ⟨k - 1, by omega⟩
    rw [correctorlaw7_ints.l0, if_neg (by omega)]
  | succ d ih =>
    intro k n hn hk
    obtain ⟨k, rfl⟩ : ∃ m, k = m + 1 := ⟨k - 1, by omega⟩
    rw [correctorlaw7_ints.l0, if_pos (by omega), if_pos (by omega), if_pos (by omega), if_pos rfl, w64 (by omega) (by omega), show (n : Int) + 1 = ((n + 1 : Nat) : Int) by omega]
    exact ih k (n + 1) (by omega) (by omega)
theorem ints_eq (k : Nat) (l : List Int) (hl : l.length ≤ 100000) (hk : l.length < k) : correctorlaw7_ints.f k l l = some true := by
  unfold correctorlaw7_ints.f
  rw [if_pos rfl]
  exact ints_same l hl l.length k 0 (by omega) hk
theorem qt_bad (a0 : Int) (s : ByteArray) : (qt a0 s).2.1.length ≤ s.size := by
  unfold qt
  have := dq_bad s s.size 1
  repeat' split
  all_goals first | exact this | exact Nat.zero_le _
end Go.Proofs.Ytabdoommjdgogaa.Pure
