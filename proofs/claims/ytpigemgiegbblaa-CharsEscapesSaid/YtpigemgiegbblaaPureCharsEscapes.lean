/- CharsEscapes: any text's escape is read, or is none, as the reference says. For every input. -/
import Derived.Test.YtpigemgiegbblaaC2
import Derived.Test.YtpigemgiegbblaaQLawCharsEscapes
namespace Go.Proofs.Ytpigemgiegbblaa.Pure
open Go.RowKit Go.Proofs.Ytpigemgiegbblaa.Q Go.Proofs.YtpigemgiegbblaaW.PrintWords Go.Proofs.YtpigemgiegbblaaW.PrintLast
set_option linter.unusedVariables false
set_option linter.unusedSimpArgs false
theorem rows_loop (l : List ByteArray) (hl : l.length ≤ 20) (d : Nat) : ∀ (k n : Nat), n ≤ l.length → l.length - n = d → d + 31 < k → correctorlaw5_CharsEscapes.l1 k l (n : Int) = some true := by
  induction d with
  | zero =>
    intro k n hn hd hk
    obtain ⟨k, rfl⟩ : ∃ m, k = m + 1 := ⟨k - 1, by omega⟩
    rw [correctorlaw5_CharsEscapes.l1, if_neg (by omega)]
  | succ d ih =>
    intro k n hn hd hk
    obtain ⟨k, rfl⟩ : ∃ m, k = m + 1 := ⟨k - 1, by omega⟩
    rw [correctorlaw5_CharsEscapes.l1, if_pos (by omega), if_pos (by omega), escape_eq k (by omega), refescape_eq k (by omega)]
    simp only [Option.bind_some]
    rw [if_pos trivial, if_pos trivial, w64 (by omega) (by omega), show (n : Int) + 1 = ((n + 1 : Nat) : Int) by omega]
    exact ih k (n + 1) (by omega) (by omega) (by omega)
theorem hex_loop (x0 : Int) (x1 x2 x3 : ByteArray) (h1 : x1.size ≤ 12) (h2 : x2.size ≤ 12) (h3 : x3.size ≤ 12) (d : Nat) : ∀ (k n : Nat) (acc : ByteArray), n ≤ x1.size → x1.size - n = d → d + 45 < k → acc.size ≤ n →
    correctorlaw5_CharsEscapes.l0 k x0 x1 x2 x3 acc (n : Int) = some true := by
  induction d with
  | zero =>
    intro k n acc hn hd hk ha
    obtain ⟨k, rfl⟩ : ∃ m, k = m + 1 := ⟨k - 1, by omega⟩
    have s1 : (strOfNums [x0]).size = 1 := rfl
    have c1 : ((⟨#[92]⟩ : ByteArray) ++ (strOfNums [x0])).size = 2 := by rw [ByteArray.size_append, s1]; rfl
    have c2 : ∀ a b : UInt8, (((⟨#[a]⟩ : ByteArray) ++ (⟨#[b]⟩ : ByteArray))).size = 2 := fun a b => by rw [ByteArray.size_append]; rfl
    have c5 : (((⟨#[92]⟩ : ByteArray) ++ (⟨#[85, 48, 48, 48, 48]⟩ : ByteArray))).size = 6 := by rw [ByteArray.size_append]; rfl
    have c6 : (((⟨#[92]⟩ : ByteArray) ++ (⟨#[85, 48, 48, 49, 48]⟩ : ByteArray))).size = 6 := by rw [ByteArray.size_append]; rfl
    rw [correctorlaw5_CharsEscapes.l0, if_neg (by omega)]
    simp only [Option.bind_some]
    repeat rw [if_pos (by first | omega | (simp only [ByteArray.size_append, s1, c1, c2, c5, c6] <;> omega))]
    exact rows_loop _ (by simp) 9 k 0 (by simp) (by simp) (by omega)
  | succ d ih =>
    intro k n acc hn hd hk ha
    obtain ⟨k, rfl⟩ : ∃ m, k = m + 1 := ⟨k - 1, by omega⟩
    have hr := bt_range x1 (n : Int)
    have ht : Int.tmod (bt x1 (n : Int)) 22 = bt x1 (n : Int) % 22 := Int.tmod_eq_emod_of_nonneg hr.1
    rw [correctorlaw5_CharsEscapes.l0, if_pos (by omega), if_pos (by omega), ht]
    generalize bt x1 (n : Int) = b at *
    have e : (b % 22 + 1) % 256 = b % 22 + 1 := by omega
    rw [e, if_pos (by omega), if_pos (by omega), if_pos (by omega)]
    have hz : ((⟨#[48, 49, 50, 51, 52, 53, 54, 55, 56, 57, 97, 98, 99, 100, 101, 102, 65, 66, 67, 68, 69, 70]⟩ : ByteArray).extract (b % 22).toNat (b % 22 + 1).toNat).size ≤ 1 := by rw [ByteArray.size_extract]; omega
    rw [if_pos (by omega), w64 (by omega) (by omega), show (n : Int) + 1 = ((n + 1 : Nat) : Int) by omega]
    exact ih k (n + 1) _ (by omega) (by omega) (by omega) (by rw [ByteArray.size_append]; omega)
theorem CharsEscapes : correctorlaw5_CharsEscapes.Pure := by
  intro a0 a1 a2 a3 _ _ _ _
  obtain ⟨K, hK⟩ : ∃ K : Nat, 300 < K := ⟨301, by omega⟩
  refine ⟨K, ?_⟩
  unfold correctorlaw5_CharsEscapes.f
  rw [known5 K (by omega)]
  simp only [Option.bind_some, if_true]
  obtain ⟨k, rfl⟩ : ∃ m, K = m + 1 := ⟨K - 1, by omega⟩
  have yes : correctorlaw5_CharsEscapes.j0 (k + 1) a0 a1 a2 a3 true = some true := by rw [correctorlaw5_CharsEscapes.j0, if_pos rfl]
  by_cases h1 : (a1.size : Int) > 12
  · rw [if_pos h1, yes]
  rw [if_neg h1]
  by_cases h2 : (a2.size : Int) > 12
  · rw [if_pos h2, yes]
  rw [if_neg h2]
  by_cases h3 : (a3.size : Int) > 12
  · rw [decide_eq_true h3, yes]
  rw [decide_eq_false h3, correctorlaw5_CharsEscapes.j0, if_neg Bool.false_ne_true]
  exact hex_loop a0 a1 a2 a3 (by omega) (by omega) (by omega) a1.size k 0 _ (by omega) rfl (by omega) (Nat.le_refl _)
end Go.Proofs.Ytpigemgiegbblaa.Pure
