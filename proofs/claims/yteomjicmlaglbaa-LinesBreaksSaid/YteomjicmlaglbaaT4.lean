/- Lines: where they begin, by each kind of break; that lines.Starts and the reference's Starts answer it at every list of bytes. -/
import Derived.Test.YteomjicmlaglbaaT3
import Derived.Test.YteomjicmlaglbaaQlines
import Derived.Test.YteomjicmlaglbaaQcorrectorref2
namespace Go.Proofs.Yteomjicmlaglbaa.Pure
open Go.RowKit Go.Proofs.Yteomjicmlaglbaa.Q Go.Proofs.YteomjicmlaglbaaW.PrintWords Go.Proofs.YteomjicmlaglbaaW.PrintLast
set_option linter.unusedVariables false
set_option linter.unusedSimpArgs false

/-- Does a break end with this byte, those behind it being so? -/
def brE (c : Int) (t : List Int) : Prop := c = 10 ∨ (c = 13 ∧ ¬ (t.length ≠ 0 ∧ rd t 0 = 10))
instance (c : Int) (t : List Int) : Decidable (brE c t) := by unfold brE; infer_instance
/-- Where lines begin, the first byte's place being 'a'; without the first line. -/
def lst : List Int → Int → List Int
  | [], _ => []
  | c :: t, a => if brE c t then (a + 1) :: lst t (a + 1) else lst t (a + 1)
/-- All places at which lines begin. -/
def starts (l : List Int) : List Int := 0 :: lst l 0
theorem lst_len : ∀ (l : List Int) (a : Int), (lst l a).length ≤ l.length
  | [], _ => Nat.le_refl _
  | c :: t, a => by
    have := lst_len t (a + 1)
    unfold lst
    split <;> simp <;> omega
theorem drop_cons (l : List Int) (n : Nat) (h : n < l.length) : l.drop n = rd l (n : Int) :: l.drop (n + 1) := by
  rw [List.drop_eq_getElem_cons h]
  congr 1
  unfold Go.Proofs.YteomjicmlaglbaaW.PrintWords.rd
  rw [Int.toNat_natCast, List.getD_eq_getElem?_getD, List.getElem?_eq_getElem h]
  rfl
theorem rd_drop (l : List Int) (n : Nat) (i : Int) (hi : 0 ≤ i) : rd (l.drop n) i = rd l ((n : Int) + i) := by
  unfold Go.Proofs.YteomjicmlaglbaaW.PrintWords.rd
  rw [List.getD_eq_getElem?_getD, List.getD_eq_getElem?_getD, List.getElem?_drop, show ((n : Int) + i).toNat = n + i.toNat by omega]
/-- One byte's step. -/
theorem lst_step (l : List Int) (n : Nat) (h : n < l.length) (a : Int) : lst (l.drop n) a = if brE (rd l (n : Int)) (l.drop (n + 1)) then (a + 1) :: lst (l.drop (n + 1)) (a + 1) else lst (l.drop (n + 1)) (a + 1) := by
  rw [drop_cons l n h]
  rfl
theorem brE_iff (l : List Int) (n : Nat) : brE (rd l (n : Int)) (l.drop (n + 1)) ↔ rd l (n : Int) = 10 ∨ (rd l (n : Int) = 13 ∧ ¬ (n + 1 < l.length ∧ rd l ((n : Int) + 1) = 10)) := by
  unfold brE
  rw [List.length_drop, rd_drop _ _ _ (by decide), show ((n + 1 : Nat) : Int) + 0 = (n : Int) + 1 by omega]
  constructor
  · rintro (h | ⟨h, h'⟩)
    · exact .inl h
    · exact .inr ⟨h, fun q => h' ⟨by omega, q.2⟩⟩
  · rintro (h | ⟨h, h'⟩)
    · exact .inl h
    · exact .inr ⟨h, fun q => h' ⟨by omega, q.2⟩⟩
/-- Bytes that are no breaks are gone by. -/
theorem lst_skip (l : List Int) (d : Nat) : ∀ (n : Nat) (a : Int), n + d ≤ l.length → (∀ i : Nat, n ≤ i → i < n + d → rd l (i : Int) ≠ 10 ∧ rd l (i : Int) ≠ 13) → lst (l.drop n) a = lst (l.drop (n + d)) (a + d) := by
  induction d with
  | zero => intro n a _ _; simp
  | succ d ih =>
    intro n a h hn
    have h1 := hn n (Nat.le_refl _) (by omega)
    rw [lst_step l n (by omega), if_neg (by rw [brE_iff]; omega), ih (n + 1) (a + 1) (by omega) (fun i h2 h3 => hn i (by omega) (by omega)), show n + 1 + d = n + (d + 1) by omega, show a + 1 + (d : Int) = a + ((d + 1 : Nat) : Int) by omega]

/-- The bytes of a sign of two or more are no breaks; one of one is itself. -/
theorem sign_bytes (l : List Int) (hb : Byt l) (h : l ≠ []) : ((nx l).1 = 10 ↔ rd l 0 = 10) ∧ ((nx l).1 = 13 ↔ rd l 0 = 13) ∧ (∀ i : Nat, 1 ≤ i → i < wd l → rd l (i : Int) ≠ 10 ∧ rd l (i : Int) ≠ 13) ∧ (2 ≤ wd l → rd l 0 ≠ 10 ∧ rd l 0 ≠ 13) := by
  have h0 : l.length ≠ 0 := by cases l <;> simp_all
  have r0 := hb.rd 0
  unfold wd
  rcases nx_cases l h0 with ⟨h, e⟩ | ⟨h, h', ⟨o1, o2, o3⟩, e⟩ | ⟨h, h', ⟨o1, o2, o3, o4, o5⟩, e⟩ | ⟨h, h', ⟨o1, o2, o3, o4, o5, o6⟩, e⟩ | ⟨h, e⟩ <;> rw [e] <;> simp only
  · refine ⟨by simp, by simp, fun i h1 h2 => ?_, fun h2 => ?_⟩ <;> exfalso <;> simp at h2 <;> omega
  · unfold Ct v2 at *
    refine ⟨by omega, by omega, fun i h1 h2 => ?_, fun _ => by omega⟩
    have : i = 1 := by simp at h2; omega
    subst this
    simp only [Int.natCast_one]
    omega
  · unfold Ct v3 at *
    refine ⟨by omega, by omega, fun i h1 h2 => ?_, fun _ => by omega⟩
    have : i = 1 ∨ i = 2 := by simp at h2; omega
    rcases this with rfl | rfl
    · simp only [Int.natCast_one]; omega
    · simp only [show ((2 : Nat) : Int) = 2 from rfl]; omega
  · unfold Ct v4 at *
    refine ⟨by omega, by omega, fun i h1 h2 => ?_, fun _ => by omega⟩
    have : i = 1 ∨ i = 2 ∨ i = 3 := by simp at h2; omega
    rcases this with rfl | rfl | rfl
    · simp only [Int.natCast_one]; omega
    · simp only [show ((2 : Nat) : Int) = 2 from rfl]; omega
    · simp only [show ((3 : Nat) : Int) = 3 from rfl]; omega
  · refine ⟨by omega, by omega, fun i h1 h2 => ?_, fun h2 => ?_⟩ <;> exfalso <;> simp at h2 <;> omega

theorem clone_eq (l : List Int) (h : l.length < 17592186044416) : slices_Clone_int_int.f l = some l := by unfold slices_Clone_int_int.f; rw [if_pos h]

/-! ### The program's -/
theorem starts_loop (x0 : List Int) (hb : Byt x0) (hl : (x0.length : Int) ≤ 1000000) (d : Nat) : ∀ (k n : Nat) (acc : List Int), n ≤ x0.length → x0.length - n = d → 2 * d < k → acc.length ≤ n + 1 →
    lines_Starts.l0 k x0 acc (n : Int) = some (acc ++ lst (x0.drop n) (n : Int)) := by
  induction d using Nat.strongRecOn with
  | _ d ih =>
    intro k n acc hn hd hk ha
    obtain ⟨k, rfl⟩ : ∃ m, k = m + 1 := ⟨k - 1, by omega⟩
    simp only [lines_Starts.l0]
    by_cases h : n < x0.length
    · have hne := drop_cons_ne h
      have hw := wd_fine (x0.drop n) (hb.drop n) hne
      have hdl : (x0.drop n).length = x0.length - n := List.length_drop
      obtain ⟨s10, s13, sr, s2⟩ := sign_bytes (x0.drop n) (hb.drop n) hne
      have e0 : rd (x0.drop n) 0 = rd x0 (n : Int) := by rw [rd_drop _ _ _ (by decide), Int.add_zero]
      rw [if_pos (by omega), if_pos (by omega), if_pos (by omega), Int.toNat_natCast, next_eq _ (hb.drop n)]
      simp only [Option.bind_some]
      rw [hw.2.2.2, w64 (by omega) (by omega), show (n : Int) + (wd (x0.drop n) : Int) = ((n + wd (x0.drop n) : Nat) : Int) by omega]
      generalize hwd : wd (x0.drop n) = w at *
      rw [e0] at s10 s13 s2
      obtain ⟨k, rfl⟩ : ∃ m, k = m + 1 := ⟨k - 1, by omega⟩
      -- what the step comes to, by what it ends with
      have go : ∀ (x5 : Int) (b : Bool) (accb : List Int), (b = true → accb = acc) → (b = false → accb = if x5 = 10 ∨ x5 = 13 then acc ++ [((n + w : Nat) : Int)] else acc) →
          lines_Starts.j1 (k + 1) x0 acc ((n + w : Nat) : Int) x5 b = some (accb ++ lst (x0.drop (n + w)) ((n + w : Nat) : Int)) := by
        intro x5 b accb hbt hbf
        simp only [lines_Starts.j1]
        cases b with
        | true => rw [if_pos rfl, hbt rfl]; exact ih (x0.length - (n + w)) (by omega) k (n + w) acc (by omega) rfl (by omega) (by omega)
        | false =>
          rw [if_neg (by decide), hbf rfl]
          by_cases c10 : x5 = 10
          · rw [if_pos c10, if_pos (by omega), if_pos (.inl c10)]
            exact ih (x0.length - (n + w)) (by omega) k (n + w) (acc ++ [((n + w : Nat) : Int)]) (by omega) rfl (by omega) (by simp; omega)
          · rw [if_neg c10]
            by_cases c13 : x5 = 13
            · rw [if_pos c13, if_pos (by omega), if_pos (.inr c13)]
              exact ih (x0.length - (n + w)) (by omega) k (n + w) (acc ++ [((n + w : Nat) : Int)]) (by omega) rfl (by omega) (by simp; omega)
            · rw [if_neg c13, if_neg (by omega)]
              exact ih (x0.length - (n + w)) (by omega) k (n + w) acc (by omega) rfl (by omega) (by omega)
      -- the list's own step
      have hskip : lst (x0.drop n) (n : Int) = if brE (rd x0 (n : Int)) (x0.drop (n + 1)) then ((n + w : Nat) : Int) :: lst (x0.drop (n + w)) ((n + w : Nat) : Int) else lst (x0.drop (n + w)) ((n + w : Nat) : Int) := by
        by_cases w1 : w = 1
        · subst w1
          rw [lst_step x0 n h]
          rfl
        · have hs := s2 (by omega)
          rw [if_neg (by rw [brE_iff]; omega)]
          refine (lst_skip x0 w n (n : Int) (by omega) (fun i h1 h2 => ?_)).trans (by rw [show (n : Int) + (w : Int) = ((n + w : Nat) : Int) by omega])
          by_cases hin : i = n
          · subst hin; exact hs
          · have := sr (i - n) (by omega) (by omega)
            rw [rd_drop _ _ _ (by omega), show (n : Int) + ((i - n : Nat) : Int) = (i : Int) by omega] at this
            exact this
      rw [hskip]
      by_cases c13 : (nx (x0.drop n)).1 = 13
      · have hr13 := s13.1 c13
        have hw1 : w = 1 := by
          rcases Nat.lt_or_ge w 2 with h2 | h2
          · omega
          · exact absurd hr13 (s2 h2).2
        subst hw1
        rw [if_pos c13]
        by_cases hlt : ((n + 1 : Nat) : Int) < (x0.length : Int)
        · rw [if_pos hlt, if_pos (by omega)]
          by_cases q10 : rd x0 ((n + 1 : Nat) : Int) = 10
          · rw [if_neg (by rw [brE_iff]; rw [show (n : Int) + 1 = ((n + 1 : Nat) : Int) by omega]; omega)]
            exact go _ _ acc (fun _ => rfl) (fun hf => absurd (beq_eq_false_iff_ne.mp hf) (by simpa using q10))
          · rw [if_pos (by rw [brE_iff]; rw [show (n : Int) + 1 = ((n + 1 : Nat) : Int) by omega]; omega)]
            refine (go _ _ (acc ++ [((n + 1 : Nat) : Int)]) (fun ht => absurd (beq_iff_eq.mp ht) q10) (fun _ => by rw [if_pos (.inr c13)])).trans (by simp)
        · rw [if_neg hlt, if_pos (by rw [brE_iff]; omega)]
          refine (go _ _ (acc ++ [((n + 1 : Nat) : Int)]) (fun ht => by cases ht) (fun _ => by rw [if_pos (.inr c13)])).trans (by simp)
      · rw [if_neg c13]
        by_cases c10 : (nx (x0.drop n)).1 = 10
        · have hr10 := s10.1 c10
          have hw1 : w = 1 := by
            rcases Nat.lt_or_ge w 2 with h2 | h2
            · omega
            · exact absurd hr10 (s2 h2).1
          subst hw1
          rw [if_pos (by rw [brE_iff]; omega)]
          refine (go _ _ (acc ++ [((n + 1 : Nat) : Int)]) (fun ht => by cases ht) (fun _ => by rw [if_pos (.inl c10)])).trans (by simp)
        · rw [if_neg (by rw [brE_iff]; omega)]
          exact go _ _ acc (fun ht => by cases ht) (fun _ => by rw [if_neg (by omega)])
    · have : n = x0.length := by omega
      subst this
      rw [if_neg (by omega), List.drop_length, clone_eq _ (by omega)]
      simp [lst]
theorem starts_eq (l : List Int) (hb : Byt l) (hl : (l.length : Int) ≤ 1000000) (k : Nat) (hk : 2 * l.length < k) : lines_Starts.f k l = some (starts l) := by
  have := starts_loop l hb hl l.length k 0 [0] (by omega) (by omega) (by omega) (by simp)
  unfold lines_Starts.f starts
  simpa using this

/-! ### The reference's -/
theorem break_eq (l : List Int) (hl : (l.length : Int) ≤ 1000000) (k n : Nat) (h : n < l.length) : correctorref2_Break.f (k + 1) l (n : Int) = some (if rd l (n : Int) = 13 ∧ n + 1 < l.length ∧ rd l ((n : Int) + 1) = 10 then 2 else if rd l (n : Int) = 13 ∨ rd l (n : Int) = 10 then 1 else 0) := by
  have j : ∀ b : Bool, correctorref2_Break.j0 (k + 1) l (n : Int) b = some (if b = true then 2 else if rd l (n : Int) = 13 ∨ rd l (n : Int) = 10 then 1 else 0) := by
    intro b
    simp only [correctorref2_Break.j0]
    cases b with
    | true => rfl
    | false =>
      rw [if_neg Bool.false_ne_true, if_pos (by omega), if_pos (by omega), if_neg Bool.false_ne_true]
      by_cases c : rd l (n : Int) = 13
      · rw [if_pos c, if_pos (.inl c)]
      · rw [if_neg c]
        by_cases d : rd l (n : Int) = 10
        · rw [if_pos d, if_pos (.inr d)]
        · rw [if_neg d, if_neg (by omega)]
  unfold correctorref2_Break.f
  rw [if_neg (by omega), if_pos (by omega), if_pos (by omega), w64 (by omega) (by omega)]
  by_cases c : rd l (n : Int) = 13
  · rw [if_pos c]
    by_cases d : (n : Int) + 1 < (l.length : Int)
    · rw [if_pos d, if_pos (by omega), j]
      by_cases e : rd l ((n : Int) + 1) = 10
      · rw [if_pos (by simpa using e), if_pos ⟨c, by omega, e⟩]
      · rw [if_neg (by simpa using e), if_neg (show ¬ (rd l (n : Int) = 13 ∧ n + 1 < l.length ∧ rd l ((n : Int) + 1) = 10) from fun q => e q.2.2)]
    · rw [if_neg d, j, if_neg Bool.false_ne_true, if_neg (show ¬ (rd l (n : Int) = 13 ∧ n + 1 < l.length ∧ rd l ((n : Int) + 1) = 10) from fun q => d (by omega))]
  · rw [if_neg c, j, if_neg Bool.false_ne_true, if_neg (show ¬ (rd l (n : Int) = 13 ∧ n + 1 < l.length ∧ rd l ((n : Int) + 1) = 10) from fun q => c q.1)]
theorem mx_of (a b : Int) : mx a b = if a < b then b else a := rfl
theorem refstarts_loop (x0 : List Int) (hl : (x0.length : Int) ≤ 1000000) (d : Nat) : ∀ (k n : Nat) (acc : List Int), n ≤ x0.length → x0.length - n = d → 2 * d < k → acc.length ≤ n + 1 →
    correctorref2_Starts.l0 k x0 acc (n : Int) = some (acc ++ lst (x0.drop n) (n : Int)) := by
  induction d using Nat.strongRecOn with
  | _ d ih =>
    intro k n acc hn hd hk ha
    obtain ⟨k, rfl⟩ : ∃ m, k = m + 1 := ⟨k - 1, by omega⟩
    simp only [correctorref2_Starts.l0]
    by_cases h : n < x0.length
    · obtain ⟨k', rfl⟩ : ∃ m, k = m + 1 := ⟨k - 1, by omega⟩
      rw [if_pos (by omega), break_eq x0 hl k' n h]
      simp only [Option.bind_some]
      have hstep := lst_step x0 n h (n : Int)
      by_cases c2 : rd x0 (n : Int) = 13 ∧ n + 1 < x0.length ∧ rd x0 ((n : Int) + 1) = 10
      · rw [if_pos c2, if_pos (by decide), if_pos (by omega), show mx 2 1 = 2 from rfl, w64 (by omega) (by omega), show (n : Int) + 2 = ((n + 2 : Nat) : Int) by omega, ih (x0.length - (n + 2)) (by omega) (k' + 1) (n + 2) (acc ++ [((n + 2 : Nat) : Int)]) (by omega) rfl (by omega) (by simp; omega)]
        rw [hstep, if_neg (by rw [brE_iff]; omega), show (n : Int) + 1 = ((n + 1 : Nat) : Int) by omega, lst_step x0 (n + 1) (by omega), if_pos (by rw [brE_iff]; left; rw [show ((n + 1 : Nat) : Int) = (n : Int) + 1 by omega]; exact c2.2.2)]
        rw [show ((n + 1 : Nat) : Int) + 1 = ((n + 2 : Nat) : Int) by omega]
        simp
      · rw [if_neg c2]
        by_cases c1 : rd x0 (n : Int) = 13 ∨ rd x0 (n : Int) = 10
        · rw [if_pos c1, if_pos (by decide), if_pos (by omega), show mx 1 1 = 1 from rfl, w64 (by omega) (by omega), show (n : Int) + 1 = ((n + 1 : Nat) : Int) by omega, ih (x0.length - (n + 1)) (by omega) (k' + 1) (n + 1) (acc ++ [((n + 1 : Nat) : Int)]) (by omega) rfl (by omega) (by simp; omega)]
          rw [hstep, if_pos (by rw [brE_iff]; rcases c1 with c1 | c1 <;> omega), show (n : Int) + 1 = ((n + 1 : Nat) : Int) by omega]
          simp
        · rw [if_neg c1, if_neg (by decide), show mx 0 1 = 1 from rfl, w64 (by omega) (by omega), show (n : Int) + 1 = ((n + 1 : Nat) : Int) by omega, ih (x0.length - (n + 1)) (by omega) (k' + 1) (n + 1) acc (by omega) rfl (by omega) (by omega)]
          rw [hstep, if_neg (by rw [brE_iff]; omega), show (n : Int) + 1 = ((n + 1 : Nat) : Int) by omega]
    · have : n = x0.length := by omega
      subst this
      rw [if_neg (by omega), List.drop_length]
      simp [lst]
theorem refstarts_eq (l : List Int) (hl : (l.length : Int) ≤ 1000000) (k : Nat) (hk : 2 * l.length < k) : correctorref2_Starts.f k l = some (starts l) := by
  have := refstarts_loop l hl l.length k 0 [0] (by omega) (by omega) (by omega) (by simp)
  unfold correctorref2_Starts.f starts
  simpa using this
end Go.Proofs.Yteomjicmlaglbaa.Pure
