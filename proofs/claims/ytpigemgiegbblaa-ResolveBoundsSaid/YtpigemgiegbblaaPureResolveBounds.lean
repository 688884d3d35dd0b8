/- ResolveBounds: what is beyond 64 bits is no whole number; digits alone are a float's then. For every input. -/
import Derived.Test.YtpigemgiegbblaaR6
import Derived.Test.YtpigemgiegbblaaQLawResolveBounds
namespace Go.Proofs.Ytpigemgiegbblaa.Pure
open Go.RowKit Go.Proofs.Ytpigemgiegbblaa.Q Go.Proofs.YtpigemgiegbblaaW.PrintWords Go.Proofs.YtpigemgiegbblaaW.PrintLast
set_option linter.unusedVariables false
set_option linter.unusedSimpArgs false
def Up : ByteArray := ⟨#[57, 50, 50, 51, 51, 55, 50, 48, 51, 54, 56, 53, 52, 55, 55, 53, 56, 48]⟩
def Down : ByteArray := ⟨#[45, 57, 50, 50, 51, 51, 55, 50, 48, 51, 54, 56, 53, 52, 55, 55, 53, 56, 48]⟩
theorem bound_cases : ∀ t : Nat, t < 8 → (intS (bs (Up ++ strOfNums [48 + (t : Int)]))).2 = true ∧ ((intS (bs (Down ++ strOfNums [49 + (t : Int)]))).2 = decide ((t : Int) + 1 ≤ 8)) ∧
    (intS (bs ((⟨#[49]⟩ : ByteArray) ++ (Up ++ strOfNums [48 + (t : Int)])))).2 = false ∧ (Up ++ strOfNums [48 + (t : Int)]).size = 19 ∧ (Down ++ strOfNums [49 + (t : Int)]).size = 20 ∧ ((⟨#[49]⟩ : ByteArray) ++ (Up ++ strOfNums [48 + (t : Int)])).size = 20 ∧ (strOfNums [48 + (t : Int)]).size = 1 ∧ (strOfNums [49 + (t : Int)]).size = 1 := by decide +kernel
theorem ResolveBounds : correctorlaw15_ResolveBounds.Pure := by
  intro n hn
  obtain ⟨K, hK⟩ : ∃ K, 1000 < K := ⟨1001, by omega⟩
  refine ⟨K, ?_⟩
  unfold correctorlaw15_ResolveBounds.f
  obtain ⟨j, hj, j0, j1⟩ := within15 n 8 (by decide) (by decide)
  obtain ⟨t, rfl⟩ : ∃ t : Nat, j = (t : Int) := ⟨j.toNat, by omega⟩
  obtain ⟨b1, b2, b3, b4, b5, b6, b7, b8⟩ := bound_cases t (by omega)
  rw [known15 _ (by omega), Option.bind_some, if_pos rfl, hj, Option.bind_some, Option.bind_some, w64 (x := 48 + (t : Int)) (by omega) (by omega), show (48 + (t : Int)) % 256 = 48 + (t : Int) by omega, w64 (x := 48 + (t : Int) + 1) (by omega) (by omega), show (48 + (t : Int) + 1) % 256 = 49 + (t : Int) by omega, w64 (x := (t : Int) + 1) (by omega) (by omega)]
  change (if 18 + (strOfNums [48 + (t : Int)]).size ≤ 9223372036854775807 then ((resolve_Int.f K (Up ++ strOfNums [48 + (t : Int)])).bind fun bt258 => ((some ([49 + (t : Int)] : List Int)).bind fun y260 => (if 19 + (strOfNums y260).size ≤ 9223372036854775807 then ((resolve_Int.f K (Down ++ (strOfNums y260))).bind fun bt263 => ((resolve_Int.f K (⟨#[57, 50, 50, 51, 51, 55, 50, 48, 51, 54, 56, 53, 52, 55, 55, 53, 56, 48, 56]⟩ : ByteArray)).bind fun bt265 => ((resolve_Int.f K (⟨#[45, 57, 50, 50, 51, 51, 55, 50, 48, 51, 54, 56, 53, 52, 55, 55, 53, 56, 48, 57]⟩ : ByteArray)).bind fun bt267 => (if 1 + (Up ++ (strOfNums [48 + (t : Int)])).size ≤ 9223372036854775807 then ((resolve_Int.f K ((⟨#[49]⟩ : ByteArray) ++ (Up ++ (strOfNums [48 + (t : Int)])))).bind fun bt269 => (if bt258.2 = true then (if (bt263.2 == (decide ((t : Int) + 1 ≤ 8))) = true then (if bt265.2 = true then (some false) else (if bt267.2 = true then (some false) else (if bt269.2 = true then (some false) else ((resolve_Kind.f K (⟨#[57, 50, 50, 51, 51, 55, 50, 48, 51, 54, 56, 53, 52, 55, 55, 53, 56, 48, 56]⟩ : ByteArray)).bind fun t271 => (some (t271 == 4)))))) else (some false)) else (some false))) else (none))))) else (none)))) else (none)) = _
  have c1 : (⟨#[57, 50, 50, 51, 51, 55, 50, 48, 51, 54, 56, 53, 52, 55, 55, 53, 56, 48, 56]⟩ : ByteArray).size = 19 := rfl
  have c2 : (⟨#[45, 57, 50, 50, 51, 51, 55, 50, 48, 51, 54, 56, 53, 52, 55, 55, 53, 56, 48, 57]⟩ : ByteArray).size = 20 := rfl
  have d1 : (intS (bs (⟨#[57, 50, 50, 51, 51, 55, 50, 48, 51, 54, 56, 53, 52, 55, 55, 53, 56, 48, 56]⟩ : ByteArray))).2 = false := by decide +kernel
  have d2 : (intS (bs (⟨#[45, 57, 50, 50, 51, 51, 55, 50, 48, 51, 54, 56, 53, 52, 55, 55, 53, 56, 48, 57]⟩ : ByteArray))).2 = false := by decide +kernel
  have d3 : kd (bs (⟨#[57, 50, 50, 51, 51, 55, 50, 48, 51, 54, 56, 53, 52, 55, 55, 53, 56, 48, 56]⟩ : ByteArray)) = 4 := by decide +kernel
  rw [if_pos (by omega), int_eq _ K (by omega), Option.bind_some, Option.bind_some, if_pos (by omega), int_eq _ K (by omega), Option.bind_some, int_eq _ K (by omega), Option.bind_some, int_eq _ K (by omega), Option.bind_some, if_pos (by omega), int_eq _ K (by omega), Option.bind_some, b1, b2, b3, d1, d2, kind_eq _ (by omega) K (by omega), d3, if_pos rfl, if_pos (by simp)]
  rfl
end Go.Proofs.Ytpigemgiegbblaa.Pure
