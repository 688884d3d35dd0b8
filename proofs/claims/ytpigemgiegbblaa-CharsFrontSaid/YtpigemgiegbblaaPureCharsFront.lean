/- CharsFront: what stands behind an escape does not count. For every input. -/
import Derived.Test.YtpigemgiegbblaaC2
import Derived.Test.YtpigemgiegbblaaQLawCharsFront
namespace Go.Proofs.Ytpigemgiegbblaa.Pure
open Go.RowKit Go.Proofs.Ytpigemgiegbblaa.Q Go.Proofs.YtpigemgiegbblaaW.PrintWords Go.Proofs.YtpigemgiegbblaaW.PrintLast
set_option linter.unusedVariables false
set_option linter.unusedSimpArgs false
theorem bt_front (s t : ByteArray) (i : Nat) (h : i < s.size) : bt (s ++ t) (i : Int) = bt s (i : Int) := by
  unfold Go.Proofs.YtpigemgiegbblaaW.PrintWords.bt
  rw [Int.toNat_natCast, dif_pos h, dif_pos (by rw [ByteArray.size_append]; omega), ByteArray.getElem_append_left h]
theorem hexv_front (s t : ByteArray) (n : Nat) : ∀ (p : Nat) (v : Int), p + n ≤ s.size → hexv (s ++ t) n (p : Int) v = hexv s n (p : Int) v := by
  induction n with
  | zero => intro p v h; rfl
  | succ n ih =>
    intro p v h
    unfold hexv
    rw [bt_front s t p (by omega)]
    have := ih (p + 1) (16 * v + hexd (bt s (p : Int))) (by omega)
    rw [show ((p + 1 : Nat) : Int) = (p : Int) + 1 by omega] at this
    rw [this]
/-- A text that is one escape is read so, whatever stands behind. -/
theorem esc_front (s t : ByteArray) (h : (esc s).2 = (s.size : Int)) (h2 : 2 ≤ s.size) : esc (s ++ t) = esc s := by
  have b0 := bt_front s t 0 (by omega)
  have b1 := bt_front s t 1 (by omega)
  rw [show ((0 : Nat) : Int) = 0 from rfl] at b0
  rw [show ((1 : Nat) : Int) = 1 from rfl] at b1
  have hs : (s ++ t).size = s.size + t.size := ByteArray.size_append
  unfold esc at h ⊢
  rw [b0, b1]
  by_cases a : s.size < 2 ∨ bt s 0 ≠ 92
  · rw [if_pos a] at h
    simp only at h
    omega
  rw [if_neg a] at h
  rw [if_neg a, if_neg (show ¬ ((s ++ t).size < 2 ∨ bt s 0 ≠ 92) by omega)]
  cases hp : simp1 (bt s 1) with
  | some u => rfl
  | none =>
    rw [hp] at h
    simp only at h ⊢
    have hv := hexv_front s t (digs (bt s 1)) 2 0
    rw [show ((2 : Nat) : Int) = 2 from rfl] at hv
    generalize digs (bt s 1) = d at *
    by_cases b : d = 0 ∨ s.size < 2 + d
    · rw [if_pos b] at h
      simp only at h
      omega
    rw [if_neg b, if_neg (show ¬ (d = 0 ∨ (s ++ t).size < 2 + d) by omega), hv (by omega)]
def fronts : List ByteArray := [(⟨#[92, 110]⟩ : ByteArray), (⟨#[92, 116]⟩ : ByteArray), (⟨#[92, 92]⟩ : ByteArray), (⟨#[92, 34]⟩ : ByteArray), (⟨#[92, 120, 52, 49]⟩ : ByteArray), (⟨#[92, 117, 48, 48, 101, 57]⟩ : ByteArray), (⟨#[92, 85, 48, 48, 48, 49, 70, 54, 48, 48]⟩ : ByteArray), (⟨#[92, 32]⟩ : ByteArray), (⟨#[92, 48]⟩ : ByteArray)]
def says : List ByteArray := [(⟨#[10]⟩ : ByteArray), (⟨#[9]⟩ : ByteArray), (⟨#[92]⟩ : ByteArray), (⟨#[34]⟩ : ByteArray), (⟨#[65]⟩ : ByteArray), (⟨#[195, 169]⟩ : ByteArray), (⟨#[240, 159, 152, 128]⟩ : ByteArray), (⟨#[32]⟩ : ByteArray), (⟨#[0]⟩ : ByteArray)]
theorem front_all : ∀ n : Nat, n < 9 → (esc (rdOf ByteArray.empty fronts (n : Int))).1 = rdOf ByteArray.empty says (n : Int) ∧ (esc (rdOf ByteArray.empty fronts (n : Int))).2 = ((rdOf ByteArray.empty fronts (n : Int)).size : Int) ∧ 2 ≤ (rdOf ByteArray.empty fronts (n : Int)).size ∧ (rdOf ByteArray.empty fronts (n : Int)).size ≤ 10 := by decide +kernel
theorem CharsFront : correctorlaw5_CharsFront.Pure := by
  intro a0 a1 _ _
  obtain ⟨K, hK⟩ : ∃ K : Nat, 300 < K := ⟨301, by omega⟩
  refine ⟨K, ?_⟩
  unfold correctorlaw5_CharsFront.f
  rw [known5 K (by omega)]
  simp only [Option.bind_some, if_true]
  by_cases c : (a1.size : Int) > 20
  · rw [if_pos c]
  rw [if_neg c]
  obtain ⟨t, ht, h0, h1⟩ := within5 a0 9 (by decide) (by decide)
  show (correctorlaw5_within.f a0 ((fronts.length : Nat) : Int)).bind (fun t490 => if 0 ≤ t490 then (if t490 < ((fronts.length : Nat) : Int) then (if (rdOf ByteArray.empty fronts t490).size + a1.size ≤ 9223372036854775807 then ((chars_Escape.f K ((rdOf ByteArray.empty fronts t490) ++ a1)).bind fun bt492 => (if t490 < ((says.length : Nat) : Int) then (if bt492.1.toList = (rdOf ByteArray.empty says t490).toList then (some (bt492.2 == ((rdOf ByteArray.empty fronts t490).size : Int))) else (some false)) else (none))) else (none)) else (none)) else (none)) = some true
  rw [show ((fronts.length : Nat) : Int) = 9 from rfl, show ((says.length : Nat) : Int) = 9 from rfl, ht]
  simp only [Option.bind_some]
  obtain ⟨n, rfl⟩ : ∃ n : Nat, t = (n : Int) := ⟨t.toNat, by omega⟩
  obtain ⟨f1, f2, f3, f4⟩ := front_all n (by omega)
  rw [if_pos h0, if_pos h1, if_pos (by omega), escape_eq K (by omega), esc_front _ _ f2 f3]
  simp only [Option.bind_some]
  rw [if_pos h1, f1, f2, if_pos rfl, beq_self_eq_true]
end Go.Proofs.Ytpigemgiegbblaa.Pure
