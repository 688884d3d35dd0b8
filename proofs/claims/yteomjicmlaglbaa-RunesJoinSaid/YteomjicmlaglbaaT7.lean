/- Texts laid out of signs, as bytes: none of them is bad. -/
import Derived.Test.YteomjicmlaglbaaT3
namespace Go.Proofs.Yteomjicmlaglbaa.Pure
open Go.RowKit Go.Proofs.Yteomjicmlaglbaa.Q Go.Proofs.YteomjicmlaglbaaW.PrintWords Go.Proofs.YteomjicmlaglbaaW.PrintLast
set_option linter.unusedVariables false
set_option linter.unusedSimpArgs false
theorem bo_nums (l : List Int) (hb : Byt l) : bytesOf (strOfNums l) = l := by
  unfold bytesOf strOfNums
  simp only [List.map_map]
  conv => rhs; rw [← List.map_id l]
  refine List.map_congr_left fun x hx => ?_
  have := hb x hx
  simp only [Function.comp]
  show ((UInt8.ofNat x.toNat).toNat : Int) = x
  simp
  omega
theorem bo_byt (s : ByteArray) : Byt (bytesOf s) := fun x hx => by
  unfold bytesOf at hx
  rw [List.mem_map] at hx
  obtain ⟨b, _, rfl⟩ := hx
  have := b.toNat_lt
  omega
theorem nums_bo (s : ByteArray) : strOfNums (bytesOf s) = s := by
  apply ByteArray.ext
  apply Array.ext'
  unfold strOfNums bytesOf
  simp only [List.map_map]
  conv => rhs; rw [← List.map_id s.data.toList]
  refine List.map_congr_left fun b _ => ?_
  simp only [Function.comp, id]
  exact UInt8.toNat_inj.1 (by simp)
theorem bo_append (s t : ByteArray) : bytesOf (s ++ t) = bytesOf s ++ bytesOf t := by
  unfold bytesOf
  rw [ByteArray.data_append, Array.toList_append, List.map_append]
/-- A sign, or the one that stands for none. -/
def fx (r : Int) : Int := if 0 ≤ r ∧ r ≤ 1114111 ∧ ¬ (55296 ≤ r ∧ r ≤ 57343) then r else 65533
theorem fx_sgn (r : Int) : Sgn (fx r) := by
  unfold fx Sgn
  split
  · assumption
  · decide
theorem text_wr (r : Int) (hr : Sgn r) : strOfNums (wr r) = Utf8.encode r := by
  obtain ⟨h0, h1, h2⟩ := hr
  obtain ⟨n, rfl⟩ : ∃ n : Nat, r = (n : Int) := ⟨r.toNat, by omega⟩
  have hv : Utf8.valid (n : Int) = true := by unfold Utf8.valid; simp; omega
  unfold Utf8.encode wr strOfNums
  simp only [hv, if_true, Int.toNat_natCast]
  by_cases a : n < 128
  · rw [if_pos (show (n : Int) < 128 by omega), if_pos a]
    rfl
  rw [if_neg (show ¬ (n : Int) < 128 by omega), if_neg a]
  by_cases b : n < 2048
  · rw [if_pos (show (n : Int) < 2048 by omega), if_pos b]
    simp only [List.map_cons, List.map_nil]
    rw [show (192 + (n : Int) / 64).toNat = 192 + n / 64 by omega, show (128 + (n : Int) % 64).toNat = 128 + n % 64 by omega]
  rw [if_neg (show ¬ (n : Int) < 2048 by omega), if_neg b]
  by_cases c : n < 65536
  · rw [if_pos (show (n : Int) < 65536 by omega), if_pos c]
    simp only [List.map_cons, List.map_nil]
    rw [show (224 + (n : Int) / 4096).toNat = 224 + n / 4096 by omega, show (128 + (n : Int) / 64 % 64).toNat = 128 + n / 64 % 64 by omega, show (128 + (n : Int) % 64).toNat = 128 + n % 64 by omega]
  · rw [if_neg (show ¬ (n : Int) < 65536 by omega), if_neg c]
    simp only [List.map_cons, List.map_nil]
    rw [show (240 + (n : Int) / 262144).toNat = 240 + n / 262144 by omega, show (128 + (n : Int) / 4096 % 64).toNat = 128 + n / 4096 % 64 by omega, show (128 + (n : Int) / 64 % 64).toNat = 128 + n / 64 % 64 by omega, show (128 + (n : Int) % 64).toNat = 128 + n % 64 by omega]
theorem encode_fx (r : Int) : Utf8.encode r = Utf8.encode (fx r) := by
  unfold fx
  split
  · rfl
  · rename_i h
    have hv : Utf8.valid r = false := by
      rw [Bool.eq_false_iff]
      intro e
      apply h
      unfold Utf8.valid at e
      simp at e
      omega
    unfold Utf8.encode
    simp only [hv]
    rfl
theorem bo_encode (r : Int) : bytesOf (Utf8.encode r) = wr (fx r) := by
  have hs := fx_sgn r
  rw [encode_fx, ← text_wr _ hs, bo_nums _ (wr_byt _ hs.1 hs.2.1)]
/-- Signs, laid out. -/
def cat (rs : List Int) : List Int := rs.flatMap fun r => wr (fx r)
theorem cat_app (a b : List Int) : cat (a ++ b) = cat a ++ cat b := List.flatMap_append
theorem cat_byt (rs : List Int) : Byt (cat rs) := by
  intro x hx
  unfold cat at hx
  rw [List.mem_flatMap] at hx
  obtain ⟨r, _, h⟩ := hx
  have hs := fx_sgn r
  exact wr_byt _ hs.1 hs.2.1 x h
theorem cat_len (rs : List Int) : (cat rs).length ≤ 4 * rs.length := by
  induction rs with
  | nil => simp [cat]
  | cons r rs ih =>
    have h := (wr_len (fx r)).2
    have e : cat (r :: rs) = wr (fx r) ++ cat rs := rfl
    rw [e, List.length_append, List.length_cons]
    omega
/-- Behind whole signs the bad places are those of what follows. -/
theorem bd_cat (rs m : List Int) (hm : Byt m) : ∀ a, bd (cat rs ++ m).length (cat rs ++ m) a = bd m.length m (a + (cat rs).length) := by
  induction rs with
  | nil => intro a; simp [cat]
  | cons r rs ih =>
    intro a
    have hs := fx_sgn r
    have e : cat (r :: rs) = wr (fx r) ++ cat rs := rfl
    have hb : Byt (cat rs ++ m) := (cat_byt rs).append hm
    have hw : Byt (wr (fx r)) := wr_byt _ hs.1 hs.2.1
    have hl := wr_len (fx r)
    rw [e, List.append_assoc]
    have hne : wr (fx r) ++ (cat rs ++ m) ≠ [] := by
      intro h
      have := congrArg List.length h
      rw [List.length_append] at this
      simp only [List.length_nil] at this
      omega
    have hx := nx_wr (fx r) hs (cat rs ++ m)
    have hwd : wd (wr (fx r) ++ (cat rs ++ m)) = (wr (fx r)).length := by unfold wd; rw [hx]; exact Int.toNat_natCast _
    rw [bd_step _ _ (hw.append hb) hne, hx, if_neg (by have := hs.1; simp only; omega), List.nil_append, hwd, List.drop_left, ih, List.length_append]
    congr 1
    omega
theorem sg_cat (rs m : List Int) (hm : Byt m) : sg (cat rs ++ m).length (cat rs ++ m) = rs.length + sg m.length m := by
  induction rs with
  | nil => simp [cat]
  | cons r rs ih =>
    have hs := fx_sgn r
    have e : cat (r :: rs) = wr (fx r) ++ cat rs := rfl
    have hb : Byt (cat rs ++ m) := (cat_byt rs).append hm
    have hw : Byt (wr (fx r)) := wr_byt _ hs.1 hs.2.1
    have hl := wr_len (fx r)
    rw [e, List.append_assoc]
    have hne : wr (fx r) ++ (cat rs ++ m) ≠ [] := by
      intro h
      have := congrArg List.length h
      rw [List.length_append] at this
      simp only [List.length_nil] at this
      omega
    have hx := nx_wr (fx r) hs (cat rs ++ m)
    have hwd : wd (wr (fx r) ++ (cat rs ++ m)) = (wr (fx r)).length := by unfold wd; rw [hx]; exact Int.toNat_natCast _
    rw [sg_step _ (hw.append hb) hne, hwd, List.drop_left, ih, List.length_cons]
    omega
/-- The next sign's place in a text, by its bytes. -/
theorem next_wd (s : ByteArray) (p : Nat) (h : p < s.size) : rdNext s (p : Int) = ((p + wd ((bytesOf s).drop p) : Nat) : Int) := by
  have hl : (bytesOf s).length = s.size := bytesOf_length s
  have hne : (bytesOf s).drop p ≠ [] := drop_cons_ne (by omega)
  have h1 := dec_drop (bytesOf s) p (by omega)
  have h2 := dec_wd ((bytesOf s).drop p) ((bo_byt s).drop p) hne
  rw [nums_bo] at h1
  unfold rdNext
  rw [Int.toNat_natCast, h1, h2]
end Go.Proofs.Yteomjicmlaglbaa.Pure
