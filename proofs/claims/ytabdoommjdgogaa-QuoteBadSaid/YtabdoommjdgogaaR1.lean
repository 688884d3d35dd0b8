/- Texts as lists of bytes, signs ahead of numbers, and the number of digits: plain. -/
import Derived.Test.YtabdoommjdgogaaC1
namespace Go.Proofs.Ytabdoommjdgogaa.Pure
open Go.RowKit Go.Proofs.Ytabdoommjdgogaa.Q Go.Proofs.YtabdoommjdgogaaW.PrintWords Go.Proofs.YtabdoommjdgogaaW.PrintLast
set_option linter.unusedVariables false
set_option linter.unusedSimpArgs false
/-- A text's bytes. -/
def bs (s : ByteArray) : List Int := s.data.toList.map fun b => (b.toNat : Int)
theorem size_list (s : ByteArray) : s.data.toList.length = s.size := Array.length_toList
theorem bs_len (s : ByteArray) : (bs s).length = s.size := by rw [← size_list]; exact List.length_map _
theorem bs_byt (s : ByteArray) : Byt (bs s) := fun x hx => by
  unfold bs at hx
  rw [List.mem_map] at hx
  obtain ⟨b, _, rfl⟩ := hx
  have := b.toNat_lt
  omega
theorem bt_bs (s : ByteArray) (i : Int) : bt s i = rd (bs s) i := by
  unfold Go.Proofs.YtabdoommjdgogaaW.PrintWords.bt Go.Proofs.YtabdoommjdgogaaW.PrintWords.rd bs
  rw [List.getD_eq_getElem?_getD, List.getElem?_map]
  by_cases h : i.toNat < s.size
  · rw [dif_pos h, List.getElem?_eq_getElem (show i.toNat < s.data.toList.length by rw [size_list]; exact h)]
    rfl
  · rw [dif_neg h, List.getElem?_eq_none (show s.data.toList.length ≤ i.toNat by rw [size_list]; omega)]
    rfl
theorem bs_drop (s : ByteArray) (a : Nat) : bs (s.extract a s.size) = (bs s).drop a := by
  unfold bs
  rw [ByteArray.data_extract, Array.toList_extract, ← List.map_drop]
  congr 1
  rw [List.extract_eq_take_drop]
  exact List.take_of_length_le (by rw [List.length_drop, size_list]; exact Nat.le_refl _)
theorem bs_append (s t : ByteArray) : bs (s ++ t) = bs s ++ bs t := by
  unfold bs
  rw [ByteArray.data_append, Array.toList_append, List.map_append]
theorem bs_inj {s t : ByteArray} (h : bs s = bs t) : s = t := by
  apply ByteArray.ext
  apply Array.ext'
  unfold bs at h
  refine (List.map_inj_right ?_).1 h
  intro x y e
  exact UInt8.toNat_inj.1 (by omega)
theorem bs_list (s : ByteArray) (l : List UInt8) : s.toList = l ↔ bs s = l.map (fun b => (b.toNat : Int)) := by
  rw [ByteArray.toList_eq]
  unfold bs
  constructor
  · intro h; rw [h]
  · intro h
    refine (List.map_inj_right ?_).1 h
    intro x y e
    exact UInt8.toNat_inj.1 (by omega)
theorem bs_nums (l : List Int) (hb : Byt l) : bs (strOfNums l) = l := by
  unfold bs strOfNums
  simp only [List.map_map]
  conv => rhs; rw [← List.map_id l]
  refine List.map_congr_left fun x hx => ?_
  have := hb x hx
  simp only [Function.comp]
  show ((UInt8.ofNat x.toNat).toNat : Int) = x
  simp
  omega
end Go.Proofs.Ytabdoommjdgogaa.Pure
