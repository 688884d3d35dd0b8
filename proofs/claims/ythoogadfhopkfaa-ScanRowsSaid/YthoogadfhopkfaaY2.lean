/- Rows of few signs are read row by row: alone as among others. No program in it. -/
import Derived.Test.YthoogadfhopkfaaY1
namespace Go.Proofs.Ythoogadfhopkfaa.Same
open Go.RowKit Go.Proofs.Ythoogadfhopkfaa.Q Go.Proofs.YthoogadfhopkfaaW.PrintWords Go.Proofs.YthoogadfhopkfaaW.PrintLast Go.Proofs.YthoogadfhopkfaaW.PrintMore Go.Proofs.Ythoogadfhopkfaa.Sc Go.Proofs.Ythoogadfhopkfaa.Rf Go.Proofs.Ythoogadfhopkfaa.Pure
set_option linter.unusedVariables false
set_option linter.unusedSimpArgs false
/-- A token's kind and end, where the row goes on. -/
def kE (b : List Int) (s : RSt) : Int × Int :=
  if markOf b s ≠ 0 then (markOf b s, s.at_ + 3)
  else if s.at_ = s.row ∧ rd b s.at_ = 32 then (2, spaces b s.at_)
  else if Sc.blank (rd b s.at_) = true then (3, blanks b s.at_)
  else if rd b s.at_ = 35 ∧ (s.at_ = s.row ∨ last s.l = 2 ∨ last s.l = 3) then (4, line b s.at_)
  else if rd b s.at_ = 45 ∧ s.only = true ∧ spc b (s.at_ + 1) = true then (5, s.at_ + 1)
  else if colon b 0 s.at_ = true then (6, s.at_ + 1)
  else if rd b s.at_ = 38 ∧ namesR b (s.at_ + 1) false > s.at_ + 1 then (12, namesR b (s.at_ + 1) false)
  else if rd b s.at_ = 42 ∧ namesR b (s.at_ + 1) false > s.at_ + 1 then (13, namesR b (s.at_ + 1) false)
  else if rd b s.at_ = 33 then (14, namesR b (s.at_ + 1) true)
  else if rd b s.at_ = 39 then (16, singleR b (s.at_ + 1) (line b s.at_))
  else (15, plainR b 0 s.at_)
theorem markOf_range {b : List Int} {s : RSt} (h : 0 ≤ s.at_) : markOf b s = 0 ∨ markOf b s = 20 ∨ markOf b s = 21 := by
  unfold markOf
  split
  · rcases markR_cases b s.at_ h with e | ⟨e, _⟩
    · exact .inl e
    · exact .inr e
  · exact .inl rfl
theorem step_kE {b : List Int} {s : RSt} (h0 : 0 ≤ s.at_) (hlt : s.at_ < (b.length : Int)) (ho : s.op = 0) (hq : qb (rd b s.at_)) (hbr : brk b s.at_ = 0) : stepR b s = addR (kE b s).1 (kE b s).2 s := by
  have hw : ∀ r : RSt, r.op = 0 → withOp 0 r = r := fun r h => by cases r; simp only [withOp] at *; rw [h]
  unfold qb at hq
  have hm := markOf_range (b := b) h0
  unfold kE
  by_cases m : markOf b s ≠ 0
  · rw [if_pos m]
    unfold stepR
    rw [if_pos (by omega)]
    exact hw (addR (markOf b s) (s.at_ + 3) s) ho
  · rw [if_neg m]
    have m' : ¬ markOf b s > 0 := by omega
    by_cases c1 : s.at_ = s.row ∧ rd b s.at_ = 32
    · rw [if_pos c1]
      refine stepR_space m' ?_
      unfold spaceS
      rw [if_neg (by omega), if_pos c1]
    · rw [if_neg c1]
      by_cases c2 : Sc.blank (rd b s.at_) = true
      · rw [if_pos c2]
        refine stepR_space m' ?_
        unfold spaceS
        rw [if_neg (by omega), if_neg c1, if_pos c2]
      · rw [if_neg c2]
        by_cases c3 : rd b s.at_ = 35 ∧ (s.at_ = s.row ∨ last s.l = 2 ∨ last s.l = 3)
        · rw [if_pos c3]
          refine stepR_space m' ?_
          unfold spaceS
          rw [if_neg (by omega), if_neg c1, if_neg c2, if_pos c3]
        · rw [if_neg c3]
          have hs : spaceS b s = none := by
            unfold spaceS
            rw [if_neg (by omega), if_neg c1, if_neg c2, if_neg c3]
          rw [stepR_word m' hs (no_bracket (by omega))]
          have hh : headR b s.op s.at_ = 0 := by unfold headR; rw [if_pos (.inl (by omega))]
          have hn := nx_low h0 hlt (show rd b s.at_ < 128 by omega)
          unfold wordS
          rw [ho] at hh ⊢
          by_cases c4 : rd b s.at_ = 45 ∧ s.only = true ∧ spc b (s.at_ + 1) = true
          · rw [if_pos c4, if_pos ⟨c4.1, rfl, c4.2⟩]
          · rw [if_neg c4, if_neg (fun g => c4 ⟨g.1, g.2.2⟩)]
            by_cases c5 : colon b 0 s.at_ = true
            · rw [if_pos c5, if_pos c5]
            · rw [if_neg c5, if_neg c5]
              by_cases c6 : rd b s.at_ = 38 ∧ namesR b (s.at_ + 1) false > s.at_ + 1
              · rw [if_pos c6, if_pos c6]
              · rw [if_neg c6, if_neg c6]
                by_cases c7 : rd b s.at_ = 42 ∧ namesR b (s.at_ + 1) false > s.at_ + 1
                · rw [if_pos c7, if_pos c7]
                · rw [if_neg c7, if_neg c7]
                  by_cases c8 : rd b s.at_ = 33
                  · rw [if_pos c8, if_pos c8]
                  · rw [if_neg c8, if_neg c8]
                    by_cases c9 : rd b s.at_ = 39
                    · rw [if_pos c9, if_pos c9]
                    · rw [if_neg c9, if_neg c9, if_neg (by omega), hh, if_neg (by omega), hn, if_neg (by simp only; omega)]
/-- A token d further on. -/
def shT (d : Int) (t : S32) : S32 := ⟨t.f0, t.f1 + d, t.f2 + d⟩
/-- A scanner d further on, behind other tokens. -/
def mv (d : Int) (pre : List S32) (s : RSt) : RSt := ⟨s.at_ + d, s.row + d, s.op, s.base, s.only, s.text, pre ++ s.l.map (shT d)⟩
theorem mv_add (d : Int) (pre : List S32) (k e : Int) (s : RSt) : addR k (e + d) (mv d pre s) = mv d pre (addR k e s) := by
  have hb : adBase k (s.at_ + d) (s.row + d) s.base = adBase k s.at_ s.row s.base := by
    unfold adBase
    rw [show s.at_ + d - (s.row + d) = s.at_ - s.row by omega]
  unfold addR mv
  simp only [hb, List.map_append, List.append_assoc]
  rfl
theorem mv_next (d : Int) (pre : List S32) (s : RSt) : nextR (mv d pre s) = mv d pre (nextR s) := rfl
theorem last_mv (d : Int) (pre l : List S32) (h : 0 < l.length) : last (pre ++ l.map (shT d)) = last l := by
  obtain ⟨m, x, rfl⟩ : ∃ m x, l = m ++ [x] := by
    rcases List.eq_nil_or_concat l with e | ⟨m, x, e⟩
    · rw [e] at h; exact absurd h (by simp)
    · exact ⟨m, x, by rw [e, List.concat_eq_append]⟩
  rw [last_add, List.map_append, ← List.append_assoc]
  exact last_add _ (shT d x)
theorem Row.kE {b1 b2 : List Int} {d hi : Int} {s : RSt} (pre : List S32) (h : Row b1 b2 d s.at_ hi) (hlt : s.at_ < hi) (hc : s.at_ = s.row ∨ 0 < s.l.length) :
    Same.kE b2 (mv d pre s) = ((Same.kE b1 s).1, (Same.kE b1 s).2 + d) ∧ s.at_ < (Same.kE b1 s).2 ∧ (Same.kE b1 s).2 ≤ hi := by
  have hh1 := h.h1
  have hh2 := h.h2
  have hi0 := h.i0
  have hd0 := h.d0
  have er := h.eq s.at_ (Int.le_refl _) hlt
  have hq := (h.ok s.at_ (Int.le_refl _) hlt).1
  have hm := h.mark hlt
  have e1 : markOf b2 (mv d pre s) = markOf b1 s := by
    unfold markOf mv
    simp only
    by_cases c : s.at_ = s.row
    · rw [if_pos c, if_pos (by omega), hm.1]
    · rw [if_neg c, if_neg (by omega)]
  have e1' : markOf b1 s ≠ 0 → s.at_ + 3 ≤ hi := by
    unfold markOf
    split
    · exact hm.2
    · exact fun g => absurd rfl g
  have e2 := h.run (p := fun c => c == 32) (by decide) (Int.le_refl s.at_) (by omega)
  have e2' : rd b1 s.at_ = 32 → s.at_ < spaces b1 s.at_ := fun g => (spaces_more (by omega)).mpr g
  have e3 := h.run (p := fun c => Sc.blank c) (by decide) (Int.le_refl s.at_) (by omega)
  have e3' : Sc.blank (rd b1 s.at_) = true → s.at_ < blanks b1 s.at_ := fun g => (blanks_more (by omega)).mpr g
  have e4 := h.line1 (Int.le_refl s.at_) (by omega)
  have e4' := h.line2 (Int.le_refl s.at_) (by omega)
  have e5 := h.spc (j := s.at_ + 1) (by omega) (by omega)
  rw [show s.at_ + 1 + d = s.at_ + d + 1 by omega] at e5
  have e6 := h.colon (Int.le_refl s.at_) hlt
  have e7 := h.run (p := fun c => name c || (false && c == 33)) (by decide) (j := s.at_ + 1) (by omega) (by omega)
  have e8 := h.run (p := fun c => name c || (true && c == 33)) (by decide) (j := s.at_ + 1) (by omega) (by omega)
  rw [show s.at_ + 1 + d = s.at_ + d + 1 by omega] at e7 e8
  have e8' := upto_le (n := (b1.length : Int)) (p := fun j => name (rd b1 j) || (true && rd b1 j == 33)) (i := s.at_ + 1) (by omega)
  have e9 := h.sgl (hi - (s.at_ + 1)).toNat (s.at_ + 1) (by omega)
  rw [show s.at_ + 1 + d = s.at_ + d + 1 by omega] at e9
  have e9' := sglR_in b1 hi (hi - (s.at_ + 1)).toNat (s.at_ + 1) s.at_ (by omega) hlt
  have e10 := h.plainR hlt
  have n1 : namesR b2 (s.at_ + d + 1) false = namesR b1 (s.at_ + 1) false + d := e7.1
  have n1' : namesR b1 (s.at_ + 1) false ≤ hi := e7.2
  have n2 : namesR b2 (s.at_ + d + 1) true = namesR b1 (s.at_ + 1) true + d := e8.1
  have n2' : namesR b1 (s.at_ + 1) true ≤ hi := e8.2
  have n2'' : s.at_ + 1 ≤ namesR b1 (s.at_ + 1) true := e8'.1
  have s1 : singleR b1 (s.at_ + 1) hi = sglR b1 hi (hi - (s.at_ + 1)).toNat (s.at_ + 1) := rfl
  have s2 : singleR b2 (s.at_ + d + 1) (hi + d) = singleR b1 (s.at_ + 1) hi + d := by
    rw [s1, ← e9]
    unfold singleR
    rw [show hi + d - (s.at_ + d + 1) = hi - (s.at_ + 1) by omega]
  have p1 : spaces b2 (s.at_ + d) = spaces b1 s.at_ + d := e2.1
  have p1' : spaces b1 s.at_ ≤ hi := e2.2
  have p2 : blanks b2 (s.at_ + d) = blanks b1 s.at_ + d := e3.1
  have p2' : blanks b1 s.at_ ≤ hi := e3.2
  have la : (s.at_ = s.row ∨ last (pre ++ s.l.map (shT d)) = 2 ∨ last (pre ++ s.l.map (shT d)) = 3) ↔ (s.at_ = s.row ∨ last s.l = 2 ∨ last s.l = 3) := by
    rcases hc with c | c
    · exact ⟨fun _ => .inl c, fun _ => .inl c⟩
    · rw [last_mv d pre s.l c]
  have ar : (s.at_ + d = s.row + d) ↔ s.at_ = s.row := by omega
  have L : Same.kE b2 (mv d pre s) = if markOf b1 s ≠ 0 then (markOf b1 s, s.at_ + d + 3)
      else if s.at_ = s.row ∧ rd b1 s.at_ = 32 then (2, spaces b1 s.at_ + d)
      else if Sc.blank (rd b1 s.at_) = true then (3, blanks b1 s.at_ + d)
      else if rd b1 s.at_ = 35 ∧ (s.at_ = s.row ∨ last s.l = 2 ∨ last s.l = 3) then (4, hi + d)
      else if rd b1 s.at_ = 45 ∧ s.only = true ∧ Sc.spc b1 (s.at_ + 1) = true then (5, s.at_ + d + 1)
      else if Sc.colon b1 0 s.at_ = true then (6, s.at_ + d + 1)
      else if rd b1 s.at_ = 38 ∧ namesR b1 (s.at_ + 1) false + d > s.at_ + d + 1 then (12, namesR b1 (s.at_ + 1) false + d)
      else if rd b1 s.at_ = 42 ∧ namesR b1 (s.at_ + 1) false + d > s.at_ + d + 1 then (13, namesR b1 (s.at_ + 1) false + d)
      else if rd b1 s.at_ = 33 then (14, namesR b1 (s.at_ + 1) true + d)
      else if rd b1 s.at_ = 39 then (16, singleR b1 (s.at_ + 1) hi + d)
      else (15, Rf.plainR b1 0 s.at_ + d) := by
    unfold Same.kE
    rw [e1]
    unfold mv
    simp only [la, ar, er, p1, p2, e4', e5, e6, n1, n2, s2, e10.1]
  rw [L]
  unfold Same.kE
  rw [e4]
  by_cases c0 : markOf b1 s ≠ 0
  · rw [if_pos c0, if_pos c0]
    have := e1' c0
    exact ⟨by simp only [Prod.mk.injEq, true_and]; omega, by show s.at_ < s.at_ + 3; omega, this⟩
  · rw [if_neg c0, if_neg c0]
    by_cases c1 : s.at_ = s.row ∧ rd b1 s.at_ = 32
    · rw [if_pos c1, if_pos c1]
      exact ⟨rfl, e2' c1.2, p1'⟩
    · rw [if_neg c1, if_neg c1]
      by_cases c2 : Sc.blank (rd b1 s.at_) = true
      · rw [if_pos c2, if_pos c2]
        exact ⟨rfl, e3' c2, p2'⟩
      · rw [if_neg c2, if_neg c2]
        by_cases c3 : rd b1 s.at_ = 35 ∧ (s.at_ = s.row ∨ last s.l = 2 ∨ last s.l = 3)
        · rw [if_pos c3, if_pos c3]
          exact ⟨rfl, hlt, Int.le_refl _⟩
        · rw [if_neg c3, if_neg c3]
          by_cases c4 : rd b1 s.at_ = 45 ∧ s.only = true ∧ Sc.spc b1 (s.at_ + 1) = true
          · rw [if_pos c4, if_pos c4]
            exact ⟨by simp only [Prod.mk.injEq, true_and]; omega, by show s.at_ < s.at_ + 1; omega, by show s.at_ + 1 ≤ hi; omega⟩
          · rw [if_neg c4, if_neg c4]
            by_cases c5 : Sc.colon b1 0 s.at_ = true
            · rw [if_pos c5, if_pos c5]
              exact ⟨by simp only [Prod.mk.injEq, true_and]; omega, by show s.at_ < s.at_ + 1; omega, by show s.at_ + 1 ≤ hi; omega⟩
            · rw [if_neg c5, if_neg c5]
              by_cases c6 : rd b1 s.at_ = 38 ∧ namesR b1 (s.at_ + 1) false > s.at_ + 1
              · rw [if_pos c6, if_pos ⟨c6.1, by have := c6.2; omega⟩]
                exact ⟨rfl, by show s.at_ < namesR b1 (s.at_ + 1) false; have := c6.2; omega, n1'⟩
              · rw [if_neg c6, if_neg (fun g => c6 ⟨g.1, by have := g.2; omega⟩)]
                by_cases c7 : rd b1 s.at_ = 42 ∧ namesR b1 (s.at_ + 1) false > s.at_ + 1
                · rw [if_pos c7, if_pos ⟨c7.1, by have := c7.2; omega⟩]
                  exact ⟨rfl, by show s.at_ < namesR b1 (s.at_ + 1) false; have := c7.2; omega, n1'⟩
                · rw [if_neg c7, if_neg (fun g => c7 ⟨g.1, by have := g.2; omega⟩)]
                  by_cases c8 : rd b1 s.at_ = 33
                  · rw [if_pos c8, if_pos c8]
                    exact ⟨rfl, by show s.at_ < namesR b1 (s.at_ + 1) true; omega, n2'⟩
                  · rw [if_neg c8, if_neg c8]
                    by_cases c9 : rd b1 s.at_ = 39
                    · rw [if_pos c9, if_pos c9]
                      exact ⟨rfl, e9'.1, e9'.2⟩
                    · rw [if_neg c9, if_neg c9]
                      exact ⟨rfl, e10.2.1, e10.2.2⟩
end Go.Proofs.Ythoogadfhopkfaa.Same
