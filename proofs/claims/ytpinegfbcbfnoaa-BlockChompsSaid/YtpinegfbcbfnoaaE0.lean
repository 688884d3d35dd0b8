/- Bytes, texts as lists of bytes, whole numbers: small facts. -/
import Derived.Test.YtpinegfbcbfnoaaQblock
namespace Go.Proofs.Ytpinegfbcbfnoaa.Pure
open Go.RowKit Go.Proofs.Ytpinegfbcbfnoaa.Q Go.Proofs.YtpinegfbcbfnoaaW.PrintWords Go.Proofs.YtpinegfbcbfnoaaW.PrintLast
set_option linter.unusedVariables false
set_option linter.unusedSimpArgs false
/-- Numbers that are bytes. -/
def Byt (l : List Int) : Prop := ∀ x ∈ l, 0 ≤ x ∧ x ≤ 255
theorem Byt.rd {l : List Int} (h : Byt l) (i : Int) : 0 ≤ rd l i ∧ rd l i ≤ 255 := by
  unfold Go.Proofs.YtpinegfbcbfnoaaW.PrintWords.rd
  by_cases hi : i.toNat < l.length
  · rw [List.getD_eq_getElem?_getD, List.getElem?_eq_getElem hi]
    exact h _ (List.getElem_mem hi)
  · rw [List.getD_eq_getElem?_getD, List.getElem?_eq_none (by omega)]
    simp
theorem Byt.take {l : List Int} (h : Byt l) (n : Nat) : Byt (l.take n) := fun x hx => h x (List.mem_of_mem_take hx)
theorem Byt.drop {l : List Int} (h : Byt l) (n : Nat) : Byt (l.drop n) := fun x hx => h x (List.mem_of_mem_drop hx)
theorem Byt.append {l m : List Int} (h : Byt l) (k : Byt m) : Byt (l ++ m) := fun x hx => by
  rcases List.mem_append.1 hx with h1 | h1
  · exact h x h1
  · exact k x h1
theorem Byt.nil : Byt [] := fun x hx => by cases hx
theorem Byt.cons {a : Int} {l : List Int} (h0 : 0 ≤ a) (h1 : a ≤ 255) (k : Byt l) : Byt (a :: l) := fun x hx => by
  rcases List.mem_cons.1 hx with rfl | h2
  · exact ⟨h0, h1⟩
  · exact k x h2
theorem wf_i64 {a : Int} (h : (Lit.int .i64 a).wf = true) : -9223372036854775808 ≤ a ∧ a ≤ 9223372036854775807 := by
  simp [Lit.wf, IntKind.min, IntKind.max, IntKind.signed, IntKind.bits] at h
  omega
theorem wf_u8 {a : Int} (h : (Lit.int .u8 a).wf = true) : 0 ≤ a ∧ a ≤ 255 := by
  simp [Lit.wf, IntKind.min, IntKind.max, IntKind.signed, IntKind.bits] at h
  omega
theorem w64 {x : Int} (h0 : -9223372036854775808 ≤ x) (h1 : x ≤ 9223372036854775807) : wrap64 x = x := by unfold wrap64; omega
theorem w32 {x : Int} (h0 : -2147483648 ≤ x) (h1 : x ≤ 2147483647) : wrap32 x = x := by unfold wrap32; omega
theorem bt_get (s : ByteArray) (i : Nat) : bt s (i : Int) = ((s.get! i).toNat : Int) := by
  unfold Go.Proofs.YtpinegfbcbfnoaaW.PrintWords.bt
  rw [Int.toNat_natCast]
  by_cases h : i < s.size
  · rw [dif_pos h]
    show _ = ((s.data[i]!).toNat : Int)
    rw [getElem!_pos s.data i h]
    rfl
  · rw [dif_neg h]
    show _ = ((s.data[i]!).toNat : Int)
    rw [getElem!_neg s.data i h]
    rfl
theorem rune_low (s : ByteArray) (p : Nat) (h : p < s.size) (hb : bt s (p : Int) < 128) : rdRune s (p : Int) = bt s (p : Int) ∧ rdNext s (p : Int) = ((p + 1 : Nat) : Int) := by
  rw [bt_get] at *
  unfold rdRune rdNext Utf8.decode
  rw [Int.toNat_natCast]
  simp only [Nat.add_zero]
  rw [if_pos (by omega)]
  exact ⟨rfl, rfl⟩
theorem rune_high (s : ByteArray) (p : Nat) (h : p < s.size) (hb : 128 ≤ bt s (p : Int)) : 128 ≤ rdRune s (p : Int) := by
  rw [bt_get] at *
  unfold rdRune Utf8.decode
  rw [Int.toNat_natCast]
  simp only [Nat.add_zero]
  rw [if_neg (by omega)]
  have e : (65533 : Nat) = Utf8.runeError := rfl
  split
  · split
    · rename_i h1; simp only; omega
    · simp [Utf8.runeError]
  split
  · split
    · rename_i h1; simp only [Bool.and_eq_true, decide_eq_true_eq] at h1; simp only; omega
    · simp [Utf8.runeError]
  split
  · split
    · rename_i h1; simp only [Bool.and_eq_true, decide_eq_true_eq] at h1; simp only; omega
    · simp [Utf8.runeError]
  · simp [Utf8.runeError]
theorem bt_extract (s : ByteArray) (a b : Nat) (hb : b ≤ s.size) (p : Nat) (h : a + p < b) : bt (s.extract a b) (p : Int) = bt s ((a + p : Nat) : Int) := by
  unfold Go.Proofs.YtpinegfbcbfnoaaW.PrintWords.bt
  rw [Int.toNat_natCast, Int.toNat_natCast]
  have hs : (s.extract a b).size = b - a := by rw [ByteArray.size_extract]; omega
  rw [dif_pos (by omega), dif_pos (by omega), ByteArray.getElem_extract]
/-- A text's bytes. -/
def bs (s : ByteArray) : List Int := s.data.toList.map fun b => (b.toNat : Int)
theorem size_list (s : ByteArray) : s.data.toList.length = s.size := Array.length_toList
theorem bs_len (s : ByteArray) : (bs s).length = s.size := by rw [← size_list]; exact List.length_map _
theorem bs_byt (s : ByteArray) : Byt (bs s) := fun x hx => by
  unfold bs at hx
  rw [List.mem_map] at hx
  obtain ⟨b, _, rfl⟩ := hx
  have := b.toNat_lt
  omega
theorem bt_bs (s : ByteArray) (i : Int) : bt s i = rd (bs s) i := by
  unfold Go.Proofs.YtpinegfbcbfnoaaW.PrintWords.bt Go.Proofs.YtpinegfbcbfnoaaW.PrintWords.rd bs
  rw [List.getD_eq_getElem?_getD, List.getElem?_map]
  by_cases h : i.toNat < s.size
  · rw [dif_pos h, List.getElem?_eq_getElem (show i.toNat < s.data.toList.length by rw [size_list]; exact h)]
    rfl
  · rw [dif_neg h, List.getElem?_eq_none (show s.data.toList.length ≤ i.toNat by rw [size_list]; omega)]
    rfl
theorem bs_drop (s : ByteArray) (a : Nat) : bs (s.extract a s.size) = (bs s).drop a := by
  unfold bs
  rw [ByteArray.data_extract, Array.toList_extract, ← List.map_drop]
  congr 1
  rw [List.extract_eq_take_drop]
  exact List.take_of_length_le (by rw [List.length_drop, size_list]; exact Nat.le_refl _)
theorem bs_append (s t : ByteArray) : bs (s ++ t) = bs s ++ bs t := by
  unfold bs
  rw [ByteArray.data_append, Array.toList_append, List.map_append]
theorem bs_inj {s t : ByteArray} (h : bs s = bs t) : s = t := by
  apply ByteArray.ext
  apply Array.ext'
  unfold bs at h
  refine (List.map_inj_right ?_).1 h
  intro x y e
  exact UInt8.toNat_inj.1 (by omega)
theorem bs_list (s : ByteArray) (l : List UInt8) : s.toList = l ↔ bs s = l.map (fun b => (b.toNat : Int)) := by
  rw [ByteArray.toList_eq]
  unfold bs
  constructor
  · intro h; rw [h]
  · intro h
    refine (List.map_inj_right ?_).1 h
    intro x y e
    exact UInt8.toNat_inj.1 (by omega)
theorem bs_nums (l : List Int) (hb : Byt l) : bs (strOfNums l) = l := by
  unfold bs strOfNums
  simp only [List.map_map]
  conv => rhs; rw [← List.map_id l]
  refine List.map_congr_left fun x hx => ?_
  have := hb x hx
  simp only [Function.comp]
  show ((UInt8.ofNat x.toNat).toNat : Int) = x
  simp
  omega
theorem nums_bs (x : ByteArray) : strOfNums (bs x) = x := bs_inj (bs_nums _ (bs_byt x))
theorem nums_app (x : ByteArray) (l : List Int) (hl : Byt l) : strOfNums (bs x ++ l) = x ++ strOfNums l := bs_inj (by rw [bs_nums _ ((bs_byt x).append hl), bs_append, bs_nums _ hl])
theorem drop_bt (s : ByteArray) (i : Nat) (h : i < s.size) : (bs s).drop i = bt s (i : Int) :: (bs s).drop (i + 1) := by
  have hl : i < (bs s).length := by rw [bs_len]; exact h
  rw [List.drop_eq_getElem_cons hl]
  congr 1
  rw [bt_bs]
  unfold Go.Proofs.YtpinegfbcbfnoaaW.PrintWords.rd
  rw [Int.toNat_natCast, List.getD_eq_getElem?_getD, List.getElem?_eq_getElem hl]
  rfl
theorem drop_end (s : ByteArray) (i : Nat) (h : s.size ≤ i) : (bs s).drop i = [] := List.drop_eq_nil_of_le (by rw [bs_len]; exact h)
theorem bs_cut (s : ByteArray) (a b : Nat) : bs (s.extract a b) = ((bs s).drop a).take (b - a) := by
  unfold bs
  rw [ByteArray.data_extract, Array.toList_extract, List.extract_eq_take_drop, List.map_take, List.map_drop]
theorem bs_one (s : ByteArray) (i : Nat) (h : i < s.size) : bs (s.extract i (i + 1)) = [bt s (i : Int)] := by
  rw [bs_cut, drop_bt s i h, show i + 1 - i = 1 by omega]
  rfl
theorem bs_size (x : ByteArray) (l : List Int) (h : bs x = l) : x.size = l.length := by rw [← bs_len, h]
theorem bs_nil : bs (⟨#[]⟩ : ByteArray) = [] := rfl
theorem put_text (x t : ByteArray) (hx : x.size ≤ 100000) (ht : t.size ≤ 100000) : strings_Builder_WriteString.f x t = some ((t.size : Int), none, x ++ t) := by
  unfold strings_Builder_WriteString.f
  rw [if_pos (by omega)]
theorem byt1 {c : Int} (h : 0 ≤ c ∧ c ≤ 255) : Byt [c] := Byt.cons h.1 h.2 Byt.nil
end Go.Proofs.Ytpinegfbcbfnoaa.Pure
