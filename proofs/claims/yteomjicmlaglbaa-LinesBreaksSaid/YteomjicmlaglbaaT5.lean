/- Places of lines: of each place its line and column, as lines.Place and the reference's Place answer them; and the texts with breaks laid in. -/
import Derived.Test.YteomjicmlaglbaaT4
import Derived.Test.YteomjicmlaglbaaQcorrectorlaw2
namespace Go.Proofs.Yteomjicmlaglbaa.Pure
open Go.RowKit Go.Proofs.Yteomjicmlaglbaa.Q Go.Proofs.YteomjicmlaglbaaW.PrintWords Go.Proofs.YteomjicmlaglbaaW.PrintLast
set_option linter.unusedVariables false
set_option linter.unusedSimpArgs false

theorem within2 (a n : Int) (h : 0 < n) (h2 : n ≤ 1000000) : ∃ r, correctorlaw2_within.f a n = some r ∧ 0 ≤ r ∧ r < n := by
  unfold correctorlaw2_within.f
  rw [if_neg (by omega)]
  have hlt := Int.tmod_lt_of_pos a h
  have hgt : -n < Int.tmod a n := by
    have h1 := Int.tmod_lt_of_pos (-a) h
    rw [Int.neg_tmod] at h1
    omega
  by_cases c : Int.tmod a n < 0
  · rw [if_pos c, w64 (by omega) (by omega)]
    exact ⟨_, rfl, by omega, by omega⟩
  · rw [if_neg c]
    exact ⟨_, rfl, by omega, by omega⟩
theorem known2 (k : Nat) (hk : 4 < k) : correctorlaw2_known.f k = some true := by
  unfold correctorlaw2_known.f
  rw [starts_eq _ (Byt.cons (by decide) (by decide) (Byt.cons (by decide) (by decide) Byt.nil)) (by decide) k (by simpa using hk), show starts [97, 10] = [0, 2] by decide]
  decide
/-- Bytes with breaks laid in: bytes, not too many. -/
theorem text_loop (x0 x1 : List Int) (hb : Byt x0) (hl : (x0.length : Int) ≤ 140737488351232) (d : Nat) : ∀ (k n : Nat) (acc : List Int), n ≤ x0.length → n ≤ 120 → 120 - n = d → 2 * d + 2 < k → acc.length ≤ 3 * n → Byt acc →
    ∃ t, correctorlaw2_Text.l0 k x0 x1 acc (n : Int) = some t ∧ Byt t ∧ t.length ≤ 360 := by
  induction d with
  | zero =>
    intro k n acc hn hn2 hd hk ha hba
    obtain ⟨k, rfl⟩ : ∃ m, k = m + 1 := ⟨k - 1, by omega⟩
    obtain ⟨k, rfl⟩ : ∃ m, k = m + 1 := ⟨k - 1, by omega⟩
    refine ⟨acc, ?_, hba, by omega⟩
    have j : correctorlaw2_Text.j1 (k + 1) x0 x1 acc (n : Int) false = some acc := by simp only [correctorlaw2_Text.j1]; rw [if_neg Bool.false_ne_true]
    rw [correctorlaw2_Text.l0]
    by_cases c : (n : Int) < (x0.length : Int)
    · rw [if_pos c, show decide ((n : Int) < 120) = false from decide_eq_false (by omega), j]
    · rw [if_neg c, j]
  | succ d ih =>
    intro k n acc hn hn2 hd hk ha hba
    obtain ⟨k, rfl⟩ : ∃ m, k = m + 1 := ⟨k - 1, by omega⟩
    obtain ⟨k, rfl⟩ : ∃ m, k = m + 1 := ⟨k - 1, by omega⟩
    rw [correctorlaw2_Text.l0]
    by_cases c : (n : Int) < (x0.length : Int)
    · rw [if_pos c, show decide ((n : Int) < 120) = true from decide_eq_true (by omega)]
      have hr := hb.rd (n : Int)
      have e : wrap64 ((n : Int) + 1) = ((n + 1 : Nat) : Int) := by rw [w64 (by omega) (by omega)]; omega
      have fin : ∀ a2 : List Int, a2.length ≤ 3 * n + 2 → Byt a2 → ∃ t, correctorlaw2_Text.l0 k x0 x1 (a2 ++ [rd x0 (n : Int)]) (wrap64 ((n : Int) + 1)) = some t ∧ Byt t ∧ t.length ≤ 360 := fun a2 h1 h2 => by
        rw [e]
        exact ih k (n + 1) _ (by omega) (by omega) (by omega) (by omega) (by simp; omega) (h2.append (Byt.cons hr.1 hr.2 Byt.nil))
      rw [correctorlaw2_Text.j1, if_pos rfl]
      by_cases f : (n : Int) < (x1.length : Int)
      · rw [if_pos f, if_pos (by omega)]
        obtain ⟨q, hq, q0, q1⟩ := within2 (rd x1 (n : Int)) 6 (by decide) (by decide)
        rw [hq]
        simp only [Option.bind_some]
        by_cases a0 : q = 0
        · rw [if_pos a0, if_pos (by omega), if_pos c, if_pos (by simp; omega)]
          exact fin _ (by simp; omega) (hba.append (Byt.cons (by decide) (by decide) Byt.nil))
        rw [if_neg a0]
        by_cases a1 : q = 1
        · rw [if_pos a1, if_pos (by omega), if_pos c, if_pos (by simp; omega)]
          exact fin _ (by simp; omega) (hba.append (Byt.cons (by decide) (by decide) Byt.nil))
        rw [if_neg a1]
        by_cases a2 : q = 2
        · rw [if_pos a2, if_pos (by simp; omega), if_pos c, if_pos (by simp; omega)]
          exact fin _ (by simp; omega) (hba.append (Byt.cons (by decide) (by decide) (Byt.cons (by decide) (by decide) Byt.nil)))
        rw [if_neg a2, if_pos c, if_pos (by omega)]
        exact fin _ (by omega) hba
      · rw [if_neg f, if_pos (by omega), if_pos c, if_pos (by omega)]
        exact fin _ (by omega) hba
    · rw [if_neg c]
      refine ⟨acc, ?_, hba, by omega⟩
      rw [correctorlaw2_Text.j1, if_neg Bool.false_ne_true]
theorem text_is (l0 l1 : List Int) (hb : Byt l0) (hl : (l0.length : Int) ≤ 140737488351232) : ∃ t, (∀ k, 250 ≤ k → correctorlaw2_Text.f k l0 l1 = some t) ∧ Byt t ∧ t.length ≤ 360 := by
  obtain ⟨t, h, hb', hl'⟩ := text_loop l0 l1 hb hl 120 250 0 [] (by omega) (by omega) (by omega) (by omega) (by simp) Byt.nil
  refine ⟨t, fun k hk => ?_, hb', hl'⟩
  obtain ⟨d, rfl⟩ : ∃ d, k = 250 + d := ⟨k - 250, by omega⟩
  induction d with
  | zero => exact h
  | succ d ih => exact correctorlaw2_Text.mono l0 l1 (250 + d) t (ih (by omega))

/-! ### A row in order, parted at a place -/
theorem lst_low : ∀ (l : List Int) (a : Int), ∀ x ∈ lst l a, a < x ∧ x ≤ a + l.length
  | [], _, x, h => by cases h
  | c :: t, a, x, h => by
    have ih := lst_low t (a + 1)
    unfold lst at h
    simp only [List.length_cons]
    split at h
    · rcases List.mem_cons.1 h with rfl | h
      · omega
      · have := ih x h; omega
    · have := ih x h; omega
theorem lst_sorted : ∀ (l : List Int) (a : Int), (lst l a).Pairwise (· < ·)
  | [], _ => List.Pairwise.nil
  | c :: t, a => by
    have ih := lst_sorted t (a + 1)
    unfold lst
    split
    · exact List.pairwise_cons.2 ⟨fun x hx => (lst_low t (a + 1) x hx).1, ih⟩
    · exact ih
theorem starts_sorted (l : List Int) : (starts l).Pairwise (· < ·) := List.pairwise_cons.2 ⟨fun x hx => (lst_low l 0 x hx).1, lst_sorted l 0⟩
theorem starts_in (l : List Int) : ∀ x ∈ starts l, 0 ≤ x ∧ x ≤ l.length := fun x hx => by
  rcases List.mem_cons.1 hx with rfl | h
  · omega
  · have := lst_low l 0 x h; omega
theorem starts_len (l : List Int) : (starts l).length ≤ l.length + 1 := by
  have := lst_len l 0
  unfold starts
  simp only [List.length_cons]
  omega
/-- The part of a row up to a number. -/
def upTo (a : Int) : List Int → List Int
  | [] => []
  | x :: t => if x ≤ a then x :: upTo a t else []
def after (a : Int) : List Int → List Int
  | [] => []
  | x :: t => if x ≤ a then after a t else x :: t
theorem upTo_after (a : Int) : ∀ l, l = upTo a l ++ after a l
  | [] => rfl
  | x :: t => by
    unfold upTo after
    split
    · rw [List.cons_append, ← upTo_after a t]
    · rfl
theorem upTo_le (a : Int) : ∀ l, ∀ x ∈ upTo a l, x ≤ a
  | [], x, h => by cases h
  | y :: t, x, h => by
    unfold upTo at h
    split at h
    · rcases List.mem_cons.1 h with rfl | h
      · assumption
      · exact upTo_le a t x h
    · cases h
theorem after_gt (a : Int) : ∀ l : List Int, l.Pairwise (· < ·) → ∀ x ∈ after a l, a < x
  | [], _, x, h => by cases h
  | y :: t, hs, x, h => by
    rw [List.pairwise_cons] at hs
    unfold after at h
    split at h
    · exact after_gt a t hs.2 x h
    · rcases List.mem_cons.1 h with rfl | h
      · omega
      · have := hs.1 x h; omega
/-- How many lines have begun, and where the last of them did. -/
def lineOf (l : List Int) (a : Int) : Nat := (upTo a (starts l)).length
def fromOf (l : List Int) (a : Int) : Int := (upTo a (starts l)).getLastD 0
theorem upTo_starts (l : List Int) (a : Int) (h : 0 ≤ a) : upTo a (starts l) = 0 :: upTo a (lst l 0) := by
  unfold starts
  rw [upTo, if_pos h]
theorem lineOf_pos (l : List Int) (a : Int) (h : 0 ≤ a) : 1 ≤ lineOf l a := by unfold lineOf; rw [upTo_starts l a h]; simp
theorem fromOf_in (l : List Int) (a : Int) (h : 0 ≤ a) : 0 ≤ fromOf l a ∧ fromOf l a ≤ a := by
  unfold fromOf
  have hm : (upTo a (starts l)).getLastD 0 ∈ upTo a (starts l) := by
    rw [upTo_starts l a h, List.getLastD_cons]
    generalize upTo a (lst l 0) = r
    rcases r with _ | ⟨x, t⟩
    · simp
    · rw [List.getLastD_cons]
      refine List.mem_cons_of_mem _ ?_
      rw [← List.getLast_eq_getLastD (a := x) (h := by simp)]
      exact List.getLast_mem _
  have h1 := upTo_le a (starts l) _ hm
  have h2 : (upTo a (starts l)).getLastD 0 ∈ starts l := by
    have h3 := List.mem_append_left (after a (starts l)) hm
    rwa [← upTo_after a (starts l)] at h3
  exact ⟨(starts_in l _ h2).1, h1⟩
/-- A place's line and column. -/
def placeOf (l : List Int) (a : Int) : Int × Int :=
  if a < 0 ∨ (l.length : Int) < a then (0, 0) else ((lineOf l a : Int), 1 + (signs ((l.take a.toNat).drop (fromOf l a).toNat) : Int))

/-! ### The program's -/
theorem rune_count (s : List Int) (hb : Byt s) (d : Nat) : ∀ (k n : Nat) (x4 c : Int), n ≤ s.length → s.length - n = d → d < k → 0 ≤ c → c + d < 1000000000 →
    lines_Place.l1 k x4 c (strOfNums s) (n : Int) = some (x4, c + (sg (s.drop n).length (s.drop n) : Int)) := by
  induction d using Nat.strongRecOn with
  | _ d ih =>
    intro k n x4 c hn hd hk hc hc2
    obtain ⟨k, rfl⟩ : ∃ m, k = m + 1 := ⟨k - 1, by omega⟩
    rw [lines_Place.l1, if_pos (by omega)]
    by_cases h : n < s.length
    · have hne := drop_cons_ne h
      have hw := wd_fine (s.drop n) (hb.drop n) hne
      have hdl : (s.drop n).length = s.length - n := List.length_drop
      have hnext : rdNext (strOfNums s) (n : Int) = ((n + wd (s.drop n) : Nat) : Int) := by
        unfold rdNext
        rw [Int.toNat_natCast, dec_drop s n hn, dec_wd _ (hb.drop n) hne]
      rw [if_pos (by rw [size_strOfNums]; omega), hnext, w64 (by omega) (by omega), ih (s.length - (n + wd (s.drop n))) (by omega) k (n + wd (s.drop n)) x4 (c + 1) (by omega) rfl (by omega) (by omega) (by omega), sg_step _ (hb.drop n) hne, List.drop_drop]
      congr 2
      omega
    · have : n = s.length := by omega
      subst this
      rw [if_neg (by rw [size_strOfNums]; omega), List.drop_length, sg_nil]
      simp
theorem rd_app_left (p q : List Int) (i : Nat) (h : i < p.length) : rd (p ++ q) (i : Int) = rd p (i : Int) := by
  unfold Go.Proofs.YteomjicmlaglbaaW.PrintWords.rd
  rw [List.getD_eq_getElem?_getD, List.getD_eq_getElem?_getD, Int.toNat_natCast, List.getElem?_append_left h]
theorem rd_mem (p : List Int) (i : Nat) (h : i < p.length) : rd p (i : Int) ∈ p := by
  unfold Go.Proofs.YteomjicmlaglbaaW.PrintWords.rd
  rw [List.getD_eq_getElem?_getD, Int.toNat_natCast, List.getElem?_eq_getElem h]
  exact List.getElem_mem h
theorem rd_app_right (p q : List Int) (i : Nat) (h : p.length ≤ i) : rd (p ++ q) (i : Int) = rd q ((i - p.length : Nat) : Int) := by
  unfold Go.Proofs.YteomjicmlaglbaaW.PrintWords.rd
  rw [List.getD_eq_getElem?_getD, List.getD_eq_getElem?_getD, Int.toNat_natCast, Int.toNat_natCast, List.getElem?_append_right h]
/-- What stands in a row up to a place of it is last. -/
theorem last_take (p : List Int) (i : Nat) (h : i < p.length) : (p.take (i + 1)).getLastD 0 = rd p (i : Int) := by
  rw [List.take_succ_eq_append_getElem h, List.getLastD_concat]
  unfold Go.Proofs.YteomjicmlaglbaaW.PrintWords.rd
  rw [List.getD_eq_getElem?_getD, Int.toNat_natCast, List.getElem?_eq_getElem h]
  rfl
theorem place_scan (x0 : List Int) (hb : Byt x0) (hl : (x0.length : Int) ≤ 1000000) (a : Int) (h0 : 0 ≤ a) (ha : a ≤ x0.length) (p q : List Int) (hp : ∀ x ∈ p, x ≤ a) (hq : ∀ x ∈ q, a < x) (hlen : p.length + q.length ≤ 1000001)
    (hfrom : 0 ≤ p.getLastD 0 ∧ p.getLastD 0 ≤ a) (d : Nat) : ∀ (k i : Nat), i ≤ p.length + q.length → p.length + q.length - i = d → d + x0.length + 2 < k →
    lines_Place.l0 k x0 a ((min i p.length : Nat) : Int) ((p.take i).getLastD 0) (p ++ q) ((p ++ q).length : Int) (i : Int) = some ((p.length : Int), 1 + (signs ((x0.take a.toNat).drop (p.getLastD 0).toNat) : Int)) := by
  induction d with
  | zero =>
    intro k i hi hd hk
    obtain ⟨k, rfl⟩ : ∃ m, k = m + 1 := ⟨k - 1, by omega⟩
    have hll : (p ++ q).length = p.length + q.length := List.length_append
    have hs : ((x0.take a.toNat).drop (p.getLastD 0).toNat).length ≤ x0.length := by rw [List.length_drop, List.length_take]; omega
    rw [lines_Place.l0, if_neg (by omega), List.take_of_length_le (by omega), if_pos hfrom.1, if_pos hfrom.2, if_pos ha, show ((min i p.length : Nat) : Int) = (p.length : Int) by omega]
    have := rune_count ((x0.take a.toNat).drop (p.getLastD 0).toNat) ((hb.take _).drop _) _ k 0 (p.length : Int) 1 (by omega) rfl (by omega) (by omega) (by omega)
    simpa [signs] using this
  | succ d ih =>
    intro k i hi hd hk
    obtain ⟨k, rfl⟩ : ∃ m, k = m + 1 := ⟨k - 1, by omega⟩
    have hll : (p ++ q).length = p.length + q.length := List.length_append
    rw [lines_Place.l0, if_pos (by omega), if_pos (by omega), if_pos (by omega)]
    by_cases c : i < p.length
    · rw [rd_app_left p q i c, if_pos (hp _ (rd_mem p i c)), w64 (by omega) (by omega), w64 (by omega) (by omega)]
      have := ih k (i + 1) (by omega) (by omega) (by omega)
      rw [last_take p i c, show ((min (i + 1) p.length : Nat) : Int) = ((min i p.length : Nat) : Int) + 1 by omega, show ((i + 1 : Nat) : Int) = (i : Int) + 1 by omega] at this
      exact this
    · have hm := hq _ (rd_mem q (i - p.length) (by omega))
      rw [rd_app_right p q i (by omega), if_neg (by omega), w64 (by omega) (by omega)]
      have := ih k (i + 1) (by omega) (by omega) (by omega)
      rw [List.take_of_length_le (by omega), show ((min (i + 1) p.length : Nat) : Int) = ((min i p.length : Nat) : Int) by omega, show ((i + 1 : Nat) : Int) = (i : Int) + 1 by omega] at this
      rw [List.take_of_length_le (by omega)]
      exact this
theorem place_eq (l : List Int) (hb : Byt l) (hl : (l.length : Int) ≤ 1000000) (a : Int) (k : Nat) (hk : 3 * l.length + 10 < k) : lines_Place.f k l a = some (placeOf l a) := by
  obtain ⟨k, rfl⟩ : ∃ m, k = m + 1 := ⟨k - 1, by omega⟩
  have no : a < 0 ∨ (l.length : Int) < a → placeOf l a = (0, 0) := fun h => by unfold placeOf; rw [if_pos h]
  unfold lines_Place.f
  by_cases c : a < 0
  · rw [if_pos c, no (.inl c), lines_Place.j0, if_pos rfl]
  rw [if_neg c]
  by_cases d : a > (l.length : Int)
  · rw [decide_eq_true d, no (.inr d), lines_Place.j0, if_pos rfl]
  rw [decide_eq_false d, lines_Place.j0, if_neg Bool.false_ne_true, starts_eq l hb hl k (by omega)]
  simp only [Option.bind_some]
  have hpq := upTo_after a (starts l)
  have hlen := starts_len l
  have hl2 : (upTo a (starts l) ++ after a (starts l)).length = (upTo a (starts l)).length + (after a (starts l)).length := List.length_append
  rw [← hpq] at hl2
  have := place_scan l hb hl a (by omega) (by omega) (upTo a (starts l)) (after a (starts l)) (upTo_le a _) (after_gt a _ (starts_sorted l)) (by omega) (fromOf_in l a (by omega)) _ k 0 (by omega) rfl (by omega)
  rw [← hpq] at this
  unfold placeOf
  rw [if_neg (by omega)]
  simpa [lineOf, fromOf] using this

/-! ### The reference's -/
theorem refplace_scan (x0 : List Int) (hb : Byt x0) (hl : (x0.length : Int) ≤ 1000000) (a : Int) (h0 : 0 ≤ a) (ha : a ≤ x0.length) (p q : List Int) (hp : ∀ x ∈ p, x ≤ a) (hq : ∀ x ∈ q, a < x) (hlen : p.length + q.length ≤ 1000001) (hp1 : 1 ≤ p.length)
    (hfrom : 0 ≤ p.getLastD 0 ∧ p.getLastD 0 ≤ a) (d : Nat) : ∀ (k i : Nat), i ≤ p.length → p.length - i = d → d + x0.length + 12 < k →
    correctorref2_Place.l0 k x0 a (p ++ q) (i : Int) = some ((p.length : Int), 1 + (signs ((x0.take a.toNat).drop (p.getLastD 0).toNat) : Int)) := by
  induction d with
  | zero =>
    intro k i hi hd hk
    obtain ⟨k, rfl⟩ : ∃ m, k = m + 1 := ⟨k - 1, by omega⟩
    have hi2 : i = p.length := by omega
    have hll : (p ++ q).length = p.length + q.length := List.length_append
    have hs : ((x0.take a.toNat).drop (p.getLastD 0).toNat).length ≤ x0.length := by rw [List.length_drop, List.length_take]; omega
    have hsg := signs_le ((x0.take a.toNat).drop (p.getLastD 0).toNat)
    have hlast : rd (p ++ q) (wrap64 ((i : Int) - 1)) = p.getLastD 0 := by
      rw [w64 (by omega) (by omega), show (i : Int) - 1 = ((p.length - 1 : Nat) : Int) by omega, rd_app_left p q _ (by omega), ← last_take p (p.length - 1) (by omega), List.take_of_length_le (by omega)]
    have fin : (correctorref1_Count.f k ((x0.take (a : Int).toNat).drop (p.getLastD 0 : Int).toNat)).bind (fun t => some ((i : Int), wrap64 (1 + t))) = some ((p.length : Int), 1 + (signs ((x0.take a.toNat).drop (p.getLastD 0).toNat) : Int)) := by
      rw [refcount_eq _ ((hb.take _).drop _) (by omega) k (by omega)]
      simp only [Option.bind_some]
      rw [w64 (by omega) (by omega), hi2]
    rw [correctorref2_Place.l0]
    by_cases c : (i : Int) < ((p ++ q).length : Int)
    · have hm := hq _ (rd_mem q (i - p.length) (by omega))
      rw [if_pos c, if_pos (by omega), if_neg (by rw [rd_app_right p q i (by omega)]; omega), hlast, if_pos (by rw [w64 (by omega) (by omega)]; omega), if_pos (by rw [w64 (by omega) (by omega)]; omega), if_pos hfrom.1, if_pos hfrom.2, if_pos ha]
      exact fin
    · rw [if_neg c, hlast, if_pos (by rw [w64 (by omega) (by omega)]; omega), if_pos (by rw [w64 (by omega) (by omega)]; omega), if_pos hfrom.1, if_pos hfrom.2, if_pos ha]
      exact fin
  | succ d ih =>
    intro k i hi hd hk
    obtain ⟨k, rfl⟩ : ∃ m, k = m + 1 := ⟨k - 1, by omega⟩
    have hll : (p ++ q).length = p.length + q.length := List.length_append
    rw [correctorref2_Place.l0, if_pos (by omega), if_pos (by omega), rd_app_left p q i (by omega), if_pos (hp _ (rd_mem p i (by omega))), w64 (by omega) (by omega), show (i : Int) + 1 = ((i + 1 : Nat) : Int) by omega]
    exact ih k (i + 1) (by omega) (by omega) (by omega)
theorem refplace_eq (l : List Int) (hb : Byt l) (hl : (l.length : Int) ≤ 1000000) (a : Int) (k : Nat) (hk : 3 * l.length + 20 < k) : correctorref2_Place.f k l a = some (placeOf l a) := by
  obtain ⟨k, rfl⟩ : ∃ m, k = m + 1 := ⟨k - 1, by omega⟩
  have no : a < 0 ∨ (l.length : Int) < a → placeOf l a = (0, 0) := fun h => by unfold placeOf; rw [if_pos h]
  unfold correctorref2_Place.f
  by_cases c : a < 0
  · rw [if_pos c, no (.inl c), correctorref2_Place.j0, if_pos rfl]
  rw [if_neg c]
  by_cases d : a > (l.length : Int)
  · rw [decide_eq_true d, no (.inr d), correctorref2_Place.j0, if_pos rfl]
  rw [decide_eq_false d, correctorref2_Place.j0, if_neg Bool.false_ne_true, refstarts_eq l hl k (by omega)]
  simp only [Option.bind_some]
  have hpq := upTo_after a (starts l)
  have hlen := starts_len l
  have hl2 : (upTo a (starts l) ++ after a (starts l)).length = (upTo a (starts l)).length + (after a (starts l)).length := List.length_append
  rw [← hpq] at hl2
  have := refplace_scan l hb hl a (by omega) (by omega) (upTo a (starts l)) (after a (starts l)) (upTo_le a _) (after_gt a _ (starts_sorted l)) (by omega) (lineOf_pos l a (by omega)) (fromOf_in l a (by omega)) _ k 0 (by omega) rfl (by omega)
  rw [← hpq] at this
  unfold placeOf
  rw [if_neg (by omega)]
  simpa [lineOf, fromOf] using this
end Go.Proofs.Yteomjicmlaglbaa.Pure
