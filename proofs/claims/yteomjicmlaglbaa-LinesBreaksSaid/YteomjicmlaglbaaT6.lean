/- Going from sign to sign, lines and columns stay in order; and what Offset answers where there is no such line or column. -/
import Derived.Test.YteomjicmlaglbaaT5
namespace Go.Proofs.Yteomjicmlaglbaa.Pure
open Go.RowKit Go.Proofs.Yteomjicmlaglbaa.Q Go.Proofs.YteomjicmlaglbaaW.PrintWords Go.Proofs.YteomjicmlaglbaaW.PrintLast
set_option linter.unusedVariables false
set_option linter.unusedSimpArgs false

/-- A list cut behind its first sign, or further on, has the same first sign. -/
theorem nx_cut_same (m : List Int) (hb : Byt m) (j : Nat) (h1 : 1 ≤ j) (hw : wd m ≤ j) (hj : j ≤ m.length) : nx (m.take j) = nx m := by
  have hm : m.length ≠ 0 := by omega
  have hl : (m.take j).length = j := by rw [List.length_take]; omega
  have h0 : (m.take j).length ≠ 0 := by omega
  have e0 : rd (m.take j) 0 = rd m 0 := rd_take m j 0 (by show 0 < j; omega)
  unfold wd at hw
  rcases nx_cases m hm with ⟨h, e⟩ | ⟨h, h', ⟨o1, o2, o3⟩, e⟩ | ⟨h, h', ⟨o1, o2, o3, o4, o5⟩, e⟩ | ⟨h, h', ⟨o1, o2, o3, o4, o5, o6⟩, e⟩ | ⟨h, e⟩
  · rw [e, nx_1 h0 (by rw [e0]; exact h), e0]
  · rw [e] at hw ⊢
    have hw' : 2 ≤ j := by simpa using hw
    have e1 : rd (m.take j) 1 = rd m 1 := rd_take m j 1 (by show 1 < j; omega)
    have v : v2 (m.take j) = v2 m := by unfold v2; rw [e0, e1]
    rw [nx_2 h0 (by rw [e0]; exact h) (by rw [e0]; exact h') ⟨by omega, by rw [e1]; exact o2, by rw [v]; exact o3⟩, v]
  · rw [e] at hw ⊢
    have hw' : 3 ≤ j := by simpa using hw
    have e1 : rd (m.take j) 1 = rd m 1 := rd_take m j 1 (by show 1 < j; omega)
    have e2 : rd (m.take j) 2 = rd m 2 := rd_take m j 2 (by show 2 < j; omega)
    have v : v3 (m.take j) = v3 m := by unfold v3; rw [e0, e1, e2]
    rw [nx_3 h0 (by rw [e0]; exact h) (by rw [e0]; exact h') ⟨by omega, by rw [e1]; exact o2, by rw [e2]; exact o3, by rw [v]; exact o4, by rw [v]; exact o5⟩, v]
  · rw [e] at hw ⊢
    have hw' : 4 ≤ j := by simpa using hw
    have e1 : rd (m.take j) 1 = rd m 1 := rd_take m j 1 (by show 1 < j; omega)
    have e2 : rd (m.take j) 2 = rd m 2 := rd_take m j 2 (by show 2 < j; omega)
    have e3 : rd (m.take j) 3 = rd m 3 := rd_take m j 3 (by show 3 < j; omega)
    have v : v4 (m.take j) = v4 m := by unfold v4; rw [e0, e1, e2, e3]
    rw [nx_4 h0 (by rw [e0]; exact h) (by rw [e0]; exact h') ⟨by omega, by rw [e1]; exact o2, by rw [e2]; exact o3, by rw [e3]; exact o4, by rw [v]; exact o5, by rw [v]; exact o6⟩, v]
  · -- none: of less there is none either
    rcases nx_cases (m.take j) h0 with ⟨q, f⟩ | ⟨q, q', ⟨p1, p2, p3⟩, f⟩ | ⟨q, q', ⟨p1, p2, p3, p4, p5⟩, f⟩ | ⟨q, q', ⟨p1, p2, p3, p4, p5, p6⟩, f⟩ | ⟨q, f⟩
    · rw [e0] at q; omega
    · exfalso
      have e1 : rd (m.take j) 1 = rd m 1 := rd_take m j 1 (by show 1 < j; omega)
      have v : v2 (m.take j) = v2 m := by unfold v2; rw [e0, e1]
      rw [e0] at q q'
      rw [nx_2 hm q q' ⟨by omega, by rw [← e1]; exact p2, by rw [← v]; exact p3⟩] at e
      unfold v2 Ct at *
      simp only [Prod.mk.injEq] at e
      omega
    · exfalso
      have e1 : rd (m.take j) 1 = rd m 1 := rd_take m j 1 (by show 1 < j; omega)
      have e2 : rd (m.take j) 2 = rd m 2 := rd_take m j 2 (by show 2 < j; omega)
      have v : v3 (m.take j) = v3 m := by unfold v3; rw [e0, e1, e2]
      rw [e0] at q q'
      rw [nx_3 hm q q' ⟨by omega, by rw [← e1]; exact p2, by rw [← e2]; exact p3, by rw [← v]; exact p4, by rw [← v]; exact p5⟩] at e
      simp only [Prod.mk.injEq] at e
      omega
    · exfalso
      have e1 : rd (m.take j) 1 = rd m 1 := rd_take m j 1 (by show 1 < j; omega)
      have e2 : rd (m.take j) 2 = rd m 2 := rd_take m j 2 (by show 2 < j; omega)
      have e3 : rd (m.take j) 3 = rd m 3 := rd_take m j 3 (by show 3 < j; omega)
      have v : v4 (m.take j) = v4 m := by unfold v4; rw [e0, e1, e2, e3]
      rw [e0] at q q'
      rw [nx_4 hm q q' ⟨by omega, by rw [← e1]; exact p2, by rw [← e2]; exact p3, by rw [← e3]; exact p4, by rw [← v]; exact p5, by rw [← v]; exact p6⟩] at e
      simp only [Prod.mk.injEq] at e
      omega
    · rw [e, f]
/-- From one place to another one by so many signs. -/
inductive Way (l : List Int) (f : Nat) : Nat → Nat → Prop
  | none : Way l f f 0
  | step {i c : Nat} : Way l f i c → i < l.length → Way l f (i + wd (l.drop i)) (c + 1)
theorem Way.front {l : List Int} (hb : Byt l) {f i c : Nat} (h : Way l f i (c + 1)) : f < l.length ∧ Way l (f + wd (l.drop f)) i c ∧ f + wd (l.drop f) ≤ i := by
  generalize hc : c + 1 = c' at h
  induction h generalizing c with
  | none => cases hc
  | step h hi ih =>
    rename_i i2 c2
    obtain rfl : c = c2 := by omega
    rcases c with _ | c
    · cases h
      exact ⟨hi, Way.none, Nat.le_refl _⟩
    · obtain ⟨h1, h2, h3⟩ := ih rfl
      exact ⟨h1, Way.step h2 hi, by omega⟩
theorem Way.le {l : List Int} {f i c : Nat} (h : Way l f i c) : f ≤ i := by
  induction h with
  | none => exact Nat.le_refl _
  | step _ _ ih => omega
theorem Way.count {l : List Int} (hb : Byt l) : ∀ (c f i : Nat), Way l f i c → i ≤ l.length → signs ((l.take i).drop f) = c
  | 0, f, i, h, _ => by
    cases h
    rw [List.drop_eq_nil_of_le (by rw [List.length_take]; omega)]
    rfl
  | c + 1, f, i, h, hi => by
    obtain ⟨h1, h2, h3⟩ := h.front hb
    have hne := drop_cons_ne h1
    have hw := wd_fine (l.drop f) (hb.drop f) hne
    have hdl : (l.drop f).length = l.length - f := List.length_drop
    have e : (l.take i).drop f = (l.drop f).take (i - f) := List.drop_take
    have hn : nx ((l.take i).drop f) = nx (l.drop f) := by rw [e]; exact nx_cut_same _ (hb.drop f) (i - f) (by omega) (by omega) (by omega)
    have hwd : wd ((l.take i).drop f) = wd (l.drop f) := by unfold wd; rw [hn]
    have hne2 : (l.take i).drop f ≠ [] := drop_cons_ne (by rw [List.length_take]; omega)
    unfold signs
    rw [sg_step _ ((hb.take i).drop f) hne2, hwd, List.drop_drop]
    have := Way.count hb c (f + wd (l.drop f)) i h2 hi
    unfold signs at this
    rw [this]
    omega
theorem upTo_app (a : Int) (p q : List Int) (hp : ∀ x ∈ p, x ≤ a) (hq : ∀ x ∈ q, a < x) : upTo a (p ++ q) = p := by
  induction p with
  | nil =>
    rcases q with _ | ⟨x, t⟩
    · rfl
    · have := hq x (List.mem_cons_self)
      rw [List.nil_append, upTo, if_neg (by omega)]
  | cons y t ih =>
    rw [List.cons_append, upTo, if_pos (hp y List.mem_cons_self), ih (fun x hx => hp x (List.mem_cons_of_mem _ hx))]
/-- The lines that have begun up to a place, and those behind. -/
theorem starts_split (l : List Int) : ∀ n : Nat, n ≤ l.length → ∃ p, starts l = p ++ lst (l.drop n) (n : Int) ∧ ∀ x ∈ p, x ≤ (n : Int)
  | 0, _ => ⟨[0], by simp [starts], by simp⟩
  | n + 1, h => by
    obtain ⟨p, e, hp⟩ := starts_split l n (by omega)
    rw [lst_step l n (by omega)] at e
    by_cases b : brE (rd l (n : Int)) (l.drop (n + 1))
    · rw [if_pos b] at e
      refine ⟨p ++ [((n + 1 : Nat) : Int)], by rw [e]; simp, fun x hx => ?_⟩
      rcases List.mem_append.1 hx with hx | hx
      · have := hp x hx; omega
      · simp at hx; omega
    · rw [if_neg b] at e
      refine ⟨p, by rw [e]; simp, fun x hx => ?_⟩
      have := hp x hx
      omega
theorem upTo_is (l : List Int) (n : Nat) (h : n ≤ l.length) : starts l = upTo (n : Int) (starts l) ++ lst (l.drop n) (n : Int) := by
  obtain ⟨p, e, hp⟩ := starts_split l n h
  have := upTo_app (n : Int) p (lst (l.drop n) (n : Int)) hp (fun x hx => (lst_low _ _ x hx).1)
  rw [← e] at this
  rw [this]
  exact e
/-- What a sign's step does to them. -/
theorem upTo_step (l : List Int) (hb : Byt l) (n : Nat) (h : n < l.length) : upTo ((n + wd (l.drop n) : Nat) : Int) (starts l) = upTo (n : Int) (starts l) ∨ upTo ((n + wd (l.drop n) : Nat) : Int) (starts l) = upTo (n : Int) (starts l) ++ [((n + wd (l.drop n) : Nat) : Int)] := by
  have hne := drop_cons_ne h
  have hw := wd_fine (l.drop n) (hb.drop n) hne
  have hdl : (l.drop n).length = l.length - n := List.length_drop
  obtain ⟨s10, s13, sr, s2⟩ := sign_bytes (l.drop n) (hb.drop n) hne
  have e0 : rd (l.drop n) 0 = rd l (n : Int) := by rw [rd_drop _ _ _ (by decide), Int.add_zero]
  rw [e0] at s2
  have e := upTo_is l n (by omega)
  generalize wd (l.drop n) = w at *
  have hle := upTo_le (n : Int) (starts l)
  by_cases w1 : w = 1
  · subst w1
    rw [lst_step l n h] at e
    by_cases b : brE (rd l (n : Int)) (l.drop (n + 1))
    · right
      rw [if_pos b, show (n : Int) + 1 = ((n + 1 : Nat) : Int) by omega] at e
      have := upTo_app ((n + 1 : Nat) : Int) (upTo (n : Int) (starts l) ++ [((n + 1 : Nat) : Int)]) (lst (l.drop (n + 1)) ((n + 1 : Nat) : Int)) (fun x hx => by
        rcases List.mem_append.1 hx with hx | hx
        · have := hle x hx; omega
        · simp at hx; omega) (fun x hx => (lst_low _ _ x hx).1)
      rw [List.append_assoc, List.singleton_append, ← e] at this
      exact this
    · left
      rw [if_neg b, show (n : Int) + 1 = ((n + 1 : Nat) : Int) by omega] at e
      have := upTo_app ((n + 1 : Nat) : Int) (upTo (n : Int) (starts l)) (lst (l.drop (n + 1)) ((n + 1 : Nat) : Int)) (fun x hx => by have := hle x hx; omega) (fun x hx => (lst_low _ _ x hx).1)
      rw [← e] at this
      exact this
  · left
    have hs := s2 (by omega)
    rw [lst_skip l w n (n : Int) (by omega) (fun i h1 h2 => by
      by_cases hin : i = n
      · subst hin; exact hs
      · have := sr (i - n) (by omega) (by omega)
        rw [rd_drop _ _ _ (by omega), show (n : Int) + ((i - n : Nat) : Int) = (i : Int) by omega] at this
        exact this), show (n : Int) + (w : Int) = ((n + w : Nat) : Int) by omega] at e
    have := upTo_app ((n + w : Nat) : Int) (upTo (n : Int) (starts l)) (lst (l.drop (n + w)) ((n + w : Nat) : Int)) (fun x hx => by have := hle x hx; omega) (fun x hx => (lst_low _ _ x hx).1)
    rw [← e] at this
    exact this
/-- A place on the way: its line began at a place on the way. -/
def OnWay (l : List Int) (i c : Nat) : Prop := ∃ f : Nat, fromOf l (i : Int) = (f : Int) ∧ Way l f i c
theorem onWay_zero (l : List Int) : OnWay l 0 0 := ⟨0, by
  have := fromOf_in l 0 (by omega)
  show fromOf l 0 = 0
  omega, Way.none⟩
theorem onWay_step (l : List Int) (hb : Byt l) {i c : Nat} (h : OnWay l i c) (hi : i < l.length) : ∃ c', OnWay l (i + wd (l.drop i)) c' ∧ (lineOf l (i : Int) < lineOf l ((i + wd (l.drop i) : Nat) : Int) ∨ (lineOf l (i : Int) = lineOf l ((i + wd (l.drop i) : Nat) : Int) ∧ c ≤ c')) := by
  obtain ⟨f, hf, hw⟩ := h
  rcases upTo_step l hb i hi with e | e
  · refine ⟨c + 1, ⟨f, ?_, Way.step hw hi⟩, .inr ⟨?_, by omega⟩⟩
    · unfold fromOf at hf ⊢; rw [e]; exact hf
    · unfold lineOf; rw [e]
  · refine ⟨0, ⟨i + wd (l.drop i), ?_, Way.none⟩, .inl ?_⟩
    · unfold fromOf; rw [e, List.getLastD_concat]
    · unfold lineOf; rw [e]; simp
theorem place_on (l : List Int) (hb : Byt l) {i c : Nat} (h : OnWay l i c) (hi : i ≤ l.length) : placeOf l (i : Int) = ((lineOf l (i : Int) : Int), 1 + (c : Int)) := by
  obtain ⟨f, hf, hw⟩ := h
  unfold placeOf
  rw [if_neg (by omega), hf, Int.toNat_natCast, Int.toNat_natCast, Way.count hb c f i hw hi]
theorem lineOf_end (l : List Int) : lineOf l (l.length : Int) = (starts l).length := by
  have := upTo_is l l.length (Nat.le_refl _)
  rw [List.drop_length] at this
  unfold lineOf
  conv => rhs; rw [this]
  simp [lst]
end Go.Proofs.Yteomjicmlaglbaa.Pure
