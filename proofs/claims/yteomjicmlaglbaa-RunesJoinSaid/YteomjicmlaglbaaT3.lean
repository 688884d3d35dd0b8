/- Bytes gone through sign by sign: which places are bad, how many signs there are; that runes.Bad, runes.Count and the reference's answer it. -/
import Derived.Test.YteomjicmlaglbaaT2
namespace Go.Proofs.Yteomjicmlaglbaa.Pure
open Go.RowKit Go.Proofs.Yteomjicmlaglbaa.Q Go.Proofs.YteomjicmlaglbaaW.PrintWords Go.Proofs.YteomjicmlaglbaaW.PrintLast

/-- How many bytes the first sign has. -/
def wd (l : List Int) : Nat := (nx l).2.toNat
theorem wd_fine (l : List Int) (hb : Byt l) (h0 : l ≠ []) : 1 ≤ wd l ∧ wd l ≤ 4 ∧ wd l ≤ l.length ∧ (nx l).2 = (wd l : Int) := by
  have hf := nx_fine l hb (by cases l <;> simp_all)
  unfold wd
  omega
/-- The bad places, the first byte's place being 'at'; by at most so many steps. -/
def bd : Nat → List Int → Int → List Int
  | 0, _, _ => []
  | f + 1, l, a => if l = [] then [] else if (nx l).1 < 0 then a :: bd f (l.drop (wd l)) (a + wd l) else bd f (l.drop (wd l)) (a + wd l)
/-- How many signs. -/
def sg : Nat → List Int → Nat
  | 0, _ => 0
  | f + 1, l => if l = [] then 0 else 1 + sg f (l.drop (wd l))
theorem bd_nil (f : Nat) (a : Int) : bd f [] a = [] := by cases f <;> simp [bd]
theorem sg_nil (f : Nat) : sg f [] = 0 := by cases f <;> simp [sg]
theorem bd_fuel : ∀ (f g : Nat) (l : List Int) (a : Int), Byt l → l.length ≤ f → l.length ≤ g → bd f l a = bd g l a
  | 0, g, l, a, _, h, _ => by
    have : l = [] := List.eq_nil_of_length_eq_zero (by omega)
    subst this
    rw [bd_nil, bd_nil]
  | f + 1, 0, l, a, _, _, h => by
    have : l = [] := List.eq_nil_of_length_eq_zero (by omega)
    subst this
    rw [bd_nil, bd_nil]
  | f + 1, g + 1, l, a, hb, hf, hg => by
    by_cases h : l = []
    · subst h
      rw [bd_nil, bd_nil]
    · have hw := wd_fine l hb h
      have hd : (l.drop (wd l)).length = l.length - wd l := List.length_drop
      simp only [bd, if_neg h]
      rw [bd_fuel f g (l.drop (wd l)) (a + wd l) (hb.drop _) (by omega) (by omega)]
theorem sg_fuel : ∀ (f g : Nat) (l : List Int), Byt l → l.length ≤ f → l.length ≤ g → sg f l = sg g l
  | 0, g, l, _, h, _ => by
    have : l = [] := List.eq_nil_of_length_eq_zero (by omega)
    subst this
    rw [sg_nil, sg_nil]
  | f + 1, 0, l, _, _, h => by
    have : l = [] := List.eq_nil_of_length_eq_zero (by omega)
    subst this
    rw [sg_nil, sg_nil]
  | f + 1, g + 1, l, hb, hf, hg => by
    by_cases h : l = []
    · subst h
      rw [sg_nil, sg_nil]
    · have hw := wd_fine l hb h
      have hd : (l.drop (wd l)).length = l.length - wd l := List.length_drop
      simp only [sg, if_neg h]
      rw [sg_fuel f g (l.drop (wd l)) (hb.drop _) (by omega) (by omega)]
theorem bd_step (l : List Int) (a : Int) (hb : Byt l) (h : l ≠ []) : bd l.length l a = (if (nx l).1 < 0 then [a] else []) ++ bd (l.drop (wd l)).length (l.drop (wd l)) (a + wd l) := by
  have hw := wd_fine l hb h
  have hd : (l.drop (wd l)).length = l.length - wd l := List.length_drop
  obtain ⟨f, hf⟩ : ∃ f, l.length = f + 1 := ⟨l.length - 1, by omega⟩
  rw [hf]
  simp only [bd, if_neg h]
  rw [bd_fuel f (l.drop (wd l)).length (l.drop (wd l)) (a + wd l) (hb.drop _) (by omega) (by omega)]
  split <;> rfl
theorem sg_step (l : List Int) (hb : Byt l) (h : l ≠ []) : sg l.length l = 1 + sg (l.drop (wd l)).length (l.drop (wd l)) := by
  have hw := wd_fine l hb h
  have hd : (l.drop (wd l)).length = l.length - wd l := List.length_drop
  obtain ⟨f, hf⟩ : ∃ f, l.length = f + 1 := ⟨l.length - 1, by omega⟩
  rw [hf]
  simp only [sg, if_neg h]
  rw [sg_fuel f (l.drop (wd l)).length (l.drop (wd l)) (hb.drop _) (by omega) (by omega)]
/-- Of all bytes. -/
def bads (l : List Int) : List Int := bd l.length l 0
def signs (l : List Int) : Nat := sg l.length l
theorem sg_le : ∀ (f : Nat) (l : List Int), sg f l ≤ f
  | 0, _ => Nat.le_refl _
  | f + 1, l => by
    have := sg_le f (l.drop (wd l))
    unfold sg
    split <;> omega
theorem signs_le (l : List Int) : signs l ≤ l.length := sg_le _ _
theorem bd_len : ∀ (f : Nat) (l : List Int) (a : Int), (bd f l a).length ≤ f
  | 0, _, _ => Nat.le_refl _
  | f + 1, l, a => by
    have := bd_len f (l.drop (wd l)) (a + wd l)
    unfold bd
    split
    · simp
    · split
      · simp; omega
      · omega

/-! ### The places of the whole, the way being at 'at' -/
theorem drop_cons_ne {l : List Int} {n : Nat} (h : n < l.length) : l.drop n ≠ [] := by
  intro e
  have : (l.drop n).length = l.length - n := List.length_drop
  rw [e] at this
  simp at this
  omega
theorem w64 {x : Int} (h0 : -9223372036854775808 ≤ x) (h1 : x ≤ 9223372036854775807) : wrap64 x = x := by unfold wrap64; omega
theorem bad_loop (x0 : List Int) (hb : Byt x0) (hl : (x0.length : Int) ≤ 140737488351232) (d : Nat) : ∀ (k n : Nat) (acc : List Int), n ≤ x0.length → x0.length - n = d → d < k → acc.length ≤ n → (acc.length + d < 17592186044416) →
    runes_Bad.l0 k x0 acc (n : Int) = some (acc ++ bd (x0.drop n).length (x0.drop n) (n : Int)) := by
  induction d using Nat.strongRecOn with
  | _ d ih =>
    intro k n acc hn hd hk ha hA
    obtain ⟨k, rfl⟩ : ∃ m, k = m + 1 := ⟨k - 1, by omega⟩
    simp only [runes_Bad.l0]
    by_cases h : n < x0.length
    · have hne := drop_cons_ne h
      have hw := wd_fine (x0.drop n) (hb.drop n) hne
      have hdl : (x0.drop n).length = x0.length - n := List.length_drop
      rw [if_pos (by omega), if_pos (by omega), if_pos (by omega), Int.toNat_natCast, next_eq _ (hb.drop n)]
      simp only [Option.bind_some]
      rw [hw.2.2.2, bd_step _ _ (hb.drop n) hne, w64 (by omega) (by omega), show (n : Int) + (wd (x0.drop n) : Int) = ((n + wd (x0.drop n) : Nat) : Int) by omega, List.drop_drop]
      by_cases c : (nx (x0.drop n)).1 < 0
      · rw [if_pos c, if_pos c, if_pos (by omega), ih (x0.length - (n + wd (x0.drop n))) (by omega) k (n + wd (x0.drop n)) (acc ++ [(n : Int)]) (by omega) rfl (by omega) (by simp; omega) (by simp; omega)]
        rw [List.append_assoc]
      · rw [if_neg c, if_neg c, ih (x0.length - (n + wd (x0.drop n))) (by omega) k (n + wd (x0.drop n)) acc (by omega) rfl (by omega) (by omega) (by omega)]
        rfl
    · have : n = x0.length := by omega
      subst this
      rw [if_neg (by omega), if_pos (by simp; omega), List.drop_length, bd_nil]
      simp
theorem refbad_loop (x0 : List Int) (hb : Byt x0) (hl : (x0.length : Int) ≤ 140737488351232) (d : Nat) : ∀ (k n : Nat) (acc : List Int), n ≤ x0.length → x0.length - n = d → d + 8 < k → acc.length ≤ n → (acc.length + d < 17592186044416) →
    correctorref1_Bad.l0 k x0 acc (n : Int) = some (acc ++ bd (x0.drop n).length (x0.drop n) (n : Int)) := by
  induction d using Nat.strongRecOn with
  | _ d ih =>
    intro k n acc hn hd hk ha hA
    obtain ⟨k, rfl⟩ : ∃ m, k = m + 1 := ⟨k - 1, by omega⟩
    simp only [correctorref1_Bad.l0]
    by_cases h : n < x0.length
    · have hne := drop_cons_ne h
      have hw := wd_fine (x0.drop n) (hb.drop n) hne
      have hdl : (x0.drop n).length = x0.length - n := List.length_drop
      rw [if_pos (by omega), if_pos (by omega), if_pos (by omega), Int.toNat_natCast, ref_next' k (by omega) _ (hb.drop n) (by omega)]
      simp only [Option.bind_some]
      rw [hw.2.2.2, bd_step _ _ (hb.drop n) hne, w64 (by omega) (by omega), show (n : Int) + (wd (x0.drop n) : Int) = ((n + wd (x0.drop n) : Nat) : Int) by omega, List.drop_drop]
      by_cases c : (nx (x0.drop n)).1 < 0
      · rw [if_pos c, if_pos c, if_pos (by omega), ih (x0.length - (n + wd (x0.drop n))) (by omega) k (n + wd (x0.drop n)) (acc ++ [(n : Int)]) (by omega) rfl (by omega) (by simp; omega) (by simp; omega)]
        rw [List.append_assoc]
      · rw [if_neg c, if_neg c, ih (x0.length - (n + wd (x0.drop n))) (by omega) k (n + wd (x0.drop n)) acc (by omega) rfl (by omega) (by omega) (by omega)]
        rfl
    · have : n = x0.length := by omega
      subst this
      rw [if_neg (by omega), List.drop_length, bd_nil]
      simp
theorem bad_eq (l : List Int) (hb : Byt l) (hl : l.length < 17592186044416) (k : Nat) (hk : l.length < k) : runes_Bad.f k l = some (bads l) := by
  have := bad_loop l hb (by omega) l.length k 0 [] (by omega) (by omega) hk (by simp) (by simpa using hl)
  unfold runes_Bad.f bads
  simpa using this
theorem refbad_eq (l : List Int) (hb : Byt l) (hl : l.length < 17592186044416) (k : Nat) (hk : l.length + 8 < k) : correctorref1_Bad.f k l = some (bads l) := by
  have := refbad_loop l hb (by omega) l.length k 0 [] (by omega) (by omega) hk (by simp) (by simpa using hl)
  unfold correctorref1_Bad.f bads
  simpa using this
theorem refcount_loop (x0 : List Int) (hb : Byt x0) (hl : (x0.length : Int) ≤ 140737488351232) (d : Nat) : ∀ (k n c : Nat), n ≤ x0.length → x0.length - n = d → d + 8 < k → c ≤ n →
    correctorref1_Count.l0 k x0 (c : Int) (n : Int) = some ((c + sg (x0.drop n).length (x0.drop n) : Nat) : Int) := by
  induction d using Nat.strongRecOn with
  | _ d ih =>
    intro k n c hn hd hk hc
    obtain ⟨k, rfl⟩ : ∃ m, k = m + 1 := ⟨k - 1, by omega⟩
    simp only [correctorref1_Count.l0]
    by_cases h : n < x0.length
    · have hne := drop_cons_ne h
      have hw := wd_fine (x0.drop n) (hb.drop n) hne
      have hdl : (x0.drop n).length = x0.length - n := List.length_drop
      rw [if_pos (by omega), if_pos (by omega), if_pos (by omega), Int.toNat_natCast, ref_next' k (by omega) _ (hb.drop n) (by omega)]
      simp only [Option.bind_some]
      rw [hw.2.2.2, sg_step _ (hb.drop n) hne, w64 (by omega) (by omega), w64 (by omega) (by omega), show (n : Int) + (wd (x0.drop n) : Int) = ((n + wd (x0.drop n) : Nat) : Int) by omega, show (c : Int) + 1 = ((c + 1 : Nat) : Int) by omega, List.drop_drop, ih (x0.length - (n + wd (x0.drop n))) (by omega) k (n + wd (x0.drop n)) (c + 1) (by omega) rfl (by omega) (by omega)]
      congr 2
      omega
    · have : n = x0.length := by omega
      subst this
      rw [if_neg (by omega), List.drop_length, sg_nil]
      simp
theorem refcount_eq (l : List Int) (hb : Byt l) (hl : (l.length : Int) ≤ 140737488351232) (k : Nat) (hk : l.length + 8 < k) : correctorref1_Count.f k l = some ((signs l : Nat) : Int) := by
  have := refcount_loop l hb hl l.length k 0 0 (by omega) (by omega) hk (by omega)
  unfold correctorref1_Count.f signs
  simpa using this

/-! ### The count of the program: the model's own decoding, place by place -/
theorem get_drop (l : List Int) (p k : Nat) : (strOfNums l).get! (p + k) = (strOfNums (l.drop p)).get! (0 + k) := by
  unfold strOfNums
  rw [Nat.zero_add]
  show ((⟨(l.map fun n => UInt8.ofNat n.toNat).toArray⟩ : ByteArray).get! (p + k)) = ((⟨((l.drop p).map fun n => UInt8.ofNat n.toNat).toArray⟩ : ByteArray).get! k)
  simp only [ByteArray.get!]
  rw [List.map_drop]
  simp
theorem dec_drop (l : List Int) (p : Nat) (hp : p ≤ l.length) : Utf8.decode (strOfNums l) p = Utf8.decode (strOfNums (l.drop p)) 0 := by
  unfold Utf8.decode
  have hd : (l.drop p).length = l.length - p := List.length_drop
  have e : ∀ k, (decide (p + k < l.length)) = decide (0 + k < l.length - p) := fun k => by
    by_cases h : p + k < l.length
    · rw [decide_eq_true h, decide_eq_true (by omega)]
    · rw [decide_eq_false h, decide_eq_false (by omega)]
  have g := get_drop l p
  simp only [g, size_strOfNums, hd, e]
theorem dec_wd (l : List Int) (hb : Byt l) (h : l ≠ []) : (Utf8.decode (strOfNums l) 0).2 = wd l := by
  have hf := nx_fine l hb (by cases l <;> simp_all)
  rw [dec_plain l hb (by cases l <;> simp_all)]
  unfold wd
  split
  · rename_i hq
    have := hf.2.2.2.2.2 hq
    rw [this]
    rfl
  · rfl
theorem count_from (l : List Int) (hb : Byt l) : ∀ (f p : Nat), p ≤ l.length → l.length ≤ p + f → Lib.runeCountFrom (strOfNums l) f p = sg (l.drop p).length (l.drop p)
  | 0, p, h, h' => by
    have : p = l.length := by omega
    subst this
    rw [List.drop_length, sg_nil]
    rfl
  | f + 1, p, h, h' => by
    simp only [Lib.runeCountFrom, size_strOfNums]
    by_cases hp : p < l.length
    · have hne := drop_cons_ne hp
      have hw := wd_fine (l.drop p) (hb.drop p) hne
      have hdl : (l.drop p).length = l.length - p := List.length_drop
      rw [if_pos hp, dec_drop l p h, dec_wd _ (hb.drop p) hne, count_from l hb f (p + wd (l.drop p)) (by omega) (by omega), sg_step _ (hb.drop p) hne, List.drop_drop]
    · have : p = l.length := by omega
      subst this
      rw [if_neg hp, List.drop_length, sg_nil]
theorem count_eq (l : List Int) (hb : Byt l) : runes_Count.f l = some ((signs l : Nat) : Int) := by
  unfold runes_Count.f signs Lib.runeCount
  rw [size_strOfNums, count_from l hb l.length 0 (by omega) (by omega)]
  rfl
/-- Rows that are the same. -/
theorem ints_same (l : List Int) (hl : (l.length : Int) ≤ 140737488351232) (d : Nat) : ∀ (k n : Nat), n ≤ l.length → l.length - n = d → d < k → correctorlaw1_ints.l0 k l l (n : Int) = some true := by
  induction d with
  | zero =>
    intro k n hn hd hk
    obtain ⟨k, rfl⟩ : ∃ m, k = m + 1 := ⟨k - 1, by omega⟩
    simp only [correctorlaw1_ints.l0]
    rw [if_neg (by omega)]
  | succ d ih =>
    intro k n hn hd hk
    obtain ⟨k, rfl⟩ : ∃ m, k = m + 1 := ⟨k - 1, by omega⟩
    simp only [correctorlaw1_ints.l0]
    rw [if_pos (by omega), if_pos (by omega), if_pos (by omega), if_pos trivial, w64 (by omega) (by omega), show (n : Int) + 1 = ((n + 1 : Nat) : Int) by omega, ih k (n + 1) (by omega) (by omega) (by omega)]
theorem ints_eq (l : List Int) (hl : (l.length : Int) ≤ 140737488351232) (k : Nat) (hk : l.length < k) : correctorlaw1_ints.f k l l = some true := by
  unfold correctorlaw1_ints.f
  rw [if_pos rfl]
  have := ints_same l hl l.length k 0 (by omega) (by omega) hk
  simpa using this
end Go.Proofs.Yteomjicmlaglbaa.Pure
