/- The reference's scanner: small facts of its steps. No program in it. -/
import Derived.Test.YtabdoommjdgogaaRF0
namespace Go.Proofs.Ytabdoommjdgogaa.Same
open Go.RowKit Go.Proofs.Ytabdoommjdgogaa.Q Go.Proofs.YtabdoommjdgogaaW.PrintWords Go.Proofs.YtabdoommjdgogaaW.PrintLast Go.Proofs.YtabdoommjdgogaaW.PrintMore Go.Proofs.Ytabdoommjdgogaa.Sc Go.Proofs.Ytabdoommjdgogaa.Rf Go.Proofs.Ytabdoommjdgogaa.PuN
set_option linter.unusedVariables false
set_option linter.unusedSimpArgs false
theorem brk_range (b : List Int) (i : Int) : 0 ≤ brk b i ∧ brk b i ≤ 2 := by
  unfold brk
  repeat' split
  all_goals omega
theorem brk_le {b : List Int} {i : Int} (h : 0 < brk b i) : i + brk b i ≤ (b.length : Int) := by
  unfold brk at h ⊢
  split
  · rename_i h1
    have := (th_true (Bool.and_eq_true _ _ |>.mp h1).2).1
    omega
  · rename_i h1
    rw [if_neg h1] at h
    split
    · rename_i h2
      rcases Bool.or_eq_true _ _ |>.mp h2 with h3 | h3 <;> have := (th_true h3).1 <;> omega
    · rename_i h2
      rw [if_neg h2] at h
      omega
theorem upto_at {n : Int} {p : Int → Bool} : ∀ {i : Int}, upto n p i < n → p (upto n p i) = false := by
  intro i h
  have key : ∀ (k : Nat) (i : Int), k = (n - i).toNat → upto n p i < n → p (upto n p i) = false := by
    intro k
    induction k with
    | zero =>
      intro i hk h
      rw [upto_end (by omega)] at h
      omega
    | succ k ih =>
      intro i hk h
      by_cases hp : p i = true
      · rw [upto_go (by omega) hp] at h ⊢
        exact ih (i + 1) (by omega) h
      · rw [upto_stop (by simpa using hp)]
        simpa using hp
  exact key _ i rfl h
theorem line_in {b : List Int} {i : Int} (h : i ≤ (b.length : Int)) : i ≤ line b i ∧ line b i ≤ (b.length : Int) := upto_le (p := fun j => brk b j == 0) h
theorem upto_in {n : Int} {p : Int → Bool} : ∀ {i j : Int}, i ≤ j → j < upto n p i → p j = true := by
  intro i j h h2
  have key : ∀ (k : Nat) (i : Int), k = (n - i).toNat → i ≤ j → j < upto n p i → p j = true := by
    intro k
    induction k with
    | zero =>
      intro i hk h h2
      rw [upto_end (by omega)] at h2
      omega
    | succ k ih =>
      intro i hk h h2
      by_cases hp : p i = true
      · by_cases e : i = j
        · rw [← e]; exact hp
        · rw [upto_go (by omega) hp] at h2
          exact ih (i + 1) (by omega) (by omega) h2
      · rw [upto_stop (by simpa using hp)] at h2
        omega
  exact key _ i rfl h h2
theorem line_clear {b : List Int} {i x : Int} (h : i ≤ x) (h2 : x < line b i) : brk b x = 0 := by
  have := upto_in (p := fun j => brk b j == 0) h h2
  simpa using this
/-- The sign at x. -/
def sg (b : List Int) (x : Int) : Int × Int := nx (b.drop x.toNat)
theorem sg_low {b : List Int} {x : Int} (h0 : 0 ≤ x) (h1 : x < (b.length : Int)) (h : rd b x < 128) : sg b x = (rd b x, 1) := by
  have hr : rd (b.drop x.toNat) 0 = rd b x := by
    unfold Go.Proofs.YtabdoommjdgogaaW.PrintWords.rd
    rw [List.getD_eq_getElem?_getD, List.getD_eq_getElem?_getD, List.getElem?_drop]
    rfl
  unfold sg
  rw [nx_1 (by rw [List.length_drop]; omega) (by rw [hr]; exact h), hr]
theorem ba_in {b : List Int} {i : Int} (h0 : 0 ≤ i) (h1 : i < (b.length : Int)) : ba b i = rd b i := if_pos ⟨h0, h1⟩
theorem last_add (l : List S39) (x : S39) : last (l ++ [x]) = x.f0 := by
  unfold last rd_T39
  rw [if_neg (by simp), show (((l ++ [x]).length : Int) - 1).toNat = l.length by simp]
  simp [List.getD_eq_getElem?_getD]
/-- The reference's numbers are as they must be. -/
structure Fine (b : List Int) (s : RSt) : Prop where
  r0 : 0 ≤ s.row
  r1 : s.row ≤ s.at_
  a1 : s.at_ ≤ (b.length : Int)
  n : (s.l.length : Int) ≤ s.at_
  o0 : 0 ≤ s.op
  o1 : s.op ≤ s.at_
  b0 : -1 ≤ s.base
  b1 : s.base ≤ s.at_
  t0 : -2 ≤ s.text
  t1 : s.text ≤ s.at_
  c : s.at_ = s.row ∨ 0 < s.l.length
theorem Fine.okR {b : List Int} {s : RSt} (h : Fine b s) : okR b s = true := by
  have := h.r0; have := h.r1; have := h.a1; have := h.n; have := h.o0; have := h.o1; have := h.b0; have := h.b1; have := h.t0; have := h.t1
  simp only [Rf.okR, Bool.and_eq_true, Bool.or_eq_true, decide_eq_true_eq]
  exact ⟨h.r0, h.r1, h.a1, h.n, h.o0, h.o1, h.b0, h.b1, h.t0, h.t1, h.c⟩
theorem adBase_range {k at_ row base : Int} (h0 : 0 ≤ row) (h1 : row ≤ at_) (h2 : -1 ≤ base) (h3 : base ≤ at_) : -1 ≤ adBase k at_ row base ∧ adBase k at_ row base ≤ at_ := by
  unfold adBase
  split <;> omega
theorem Fine.addOp {b : List Int} {s : RSt} (h : Fine b s) (k o : Int) {e : Int} (h1 : s.at_ < e) (h2 : e ≤ (b.length : Int)) (h3 : 0 ≤ o) (h4 : o ≤ e) : Fine b (withOp o (addR k e s)) := by
  have := h.r0; have := h.r1; have := h.a1; have := h.n; have := h.o0; have := h.o1; have := h.b0; have := h.b1; have := h.t0; have := h.t1
  have hb := adBase_range (k := k) h.r0 h.r1 h.b0 h.b1
  have hl : ((s.l ++ [(⟨k, s.at_, e⟩ : S39)]).length : Int) = s.l.length + 1 := by simp
  refine ⟨h.r0, ?_, h2, ?_, h3, h4, hb.1, ?_, h.t0, ?_, .inr ?_⟩ <;> simp only [withOp, addR] <;> omega
theorem Fine.add {b : List Int} {s : RSt} (h : Fine b s) (k : Int) {e : Int} (h1 : s.at_ < e) (h2 : e ≤ (b.length : Int)) : Fine b (addR k e s) :=
  h.addOp k s.op h1 h2 h.o0 (by have := h.o1; omega)
theorem Fine.next {b : List Int} {s : RSt} (h : Fine b s) : Fine b (nextR s) := by
  have := h.r0; have := h.r1
  refine ⟨?_, ?_, h.a1, h.n, h.o0, h.o1, ?_, ?_, h.t0, h.t1, .inl rfl⟩ <;> simp only [nextR] <;> omega
def EndsR (b : List Int) (s : RSt) (L : List S39) : Prop := ∀ k : Nat, (b.length : Int) - s.at_ < (k : Int) → ∃ t, loopR b k s = some t ∧ t.l = L
theorem EndsR.step {b : List Int} {s : RSt} {L : List S39} (ok : Fine b s) (h : s.at_ < (b.length : Int)) (hg : s.at_ < (stepR b s).at_) (he : EndsR b (stepR b s) L) : EndsR b s L := by
  intro k hk
  cases k with
  | zero => exact absurd hk (by omega)
  | succ k =>
    obtain ⟨t, h1, h2⟩ := he k (by omega)
    refine ⟨t, ?_, h2⟩
    simp only [loopR]
    rw [if_pos ok.okR, if_pos h]
    exact h1
theorem EndsR.stop {b : List Int} {s : RSt} (ok : Fine b s) (h : ¬ s.at_ < (b.length : Int)) : EndsR b s s.l := by
  intro k hk
  cases k with
  | zero => have := ok.a1; omega
  | succ k =>
    refine ⟨s, ?_, rfl⟩
    simp only [loopR]
    rw [if_pos ok.okR, if_neg h]
theorem stepR_space {b : List Int} {r t : RSt} (hm : ¬ markOf b r > 0) (h : spaceS b r = some t) : stepR b r = t := by
  unfold stepR
  rw [if_neg hm, h]
theorem stepR_bra {b : List Int} {r t : RSt} (hm : ¬ markOf b r > 0) (hs : spaceS b r = none) (h : bracketS b r = some t) : stepR b r = t := by
  unfold stepR
  rw [if_neg hm, hs, h]
theorem stepR_word {b : List Int} {r : RSt} (hm : ¬ markOf b r > 0) (hs : spaceS b r = none) (h : bracketS b r = none) : stepR b r = wordS b r := by
  unfold stepR
  rw [if_neg hm, hs, h]
theorem markR_cases (b : List Int) (i : Int) (h0 : 0 ≤ i) : markR b i = 0 ∨ ((markR b i = 20 ∨ markR b i = 21) ∧ i + 3 ≤ (b.length : Int) ∧ (rd b i = 45 ∨ rd b i = 46)) := by
  unfold markR
  split
  · exact .inl rfl
  · rename_i h
    have hl : i + 3 ≤ (b.length : Int) := by
      rcases Int.lt_or_le (b.length : Int) (i + 3) with h2 | h2
      · exact absurd (.inl h2) h
      · exact h2
    rw [ba_in h0 (by omega)]
    split
    · rename_i h2; exact .inr ⟨.inl rfl, hl, .inl h2⟩
    · split
      · rename_i h2; exact .inr ⟨.inr rfl, hl, .inr h2⟩
      · exact .inl rfl
theorem brk_none {b : List Int} {i : Int} (h13 : rd b i ≠ 13) (h10 : rd b i ≠ 10) : brk b i = 0 := by simp [brk, th, h13, h10]
theorem brk_byte {b : List Int} {i : Int} (h : brk b i ≠ 0) : rd b i = 13 ∨ rd b i = 10 := by
  by_cases a : rd b i = 13
  · exact .inl a
  · by_cases c : rd b i = 10
    · exact .inr c
    · exact absurd (brk_none a c) h
theorem rd_app_l {u v : List Int} {i : Int} (h0 : 0 ≤ i) (h : i < (u.length : Int)) : rd (u ++ v) i = rd u i := by
  unfold Go.Proofs.YtabdoommjdgogaaW.PrintWords.rd
  rw [List.getD_eq_getElem?_getD, List.getD_eq_getElem?_getD, List.getElem?_append_left (by omega)]
theorem rd_app_r {u v : List Int} {i : Int} (h0 : 0 ≤ i) : rd (u ++ v) ((u.length : Int) + i) = rd v i := by
  unfold Go.Proofs.YtabdoommjdgogaaW.PrintWords.rd
  rw [List.getD_eq_getElem?_getD, List.getD_eq_getElem?_getD, List.getElem?_append_right (by omega), show ((u.length : Int) + i).toNat - u.length = i.toNat by omega]
theorem rd_app_r' {u v : List Int} {i n : Int} (hn : n = (u.length : Int)) (h : n ≤ i) : rd (u ++ v) i = rd v (i - n) := by
  rw [show i = (u.length : Int) + (i - n) by omega, rd_app_r (by omega), show (u.length : Int) + (i - n) - n = i - n by omega]
theorem colon_none {b : List Int} {op i : Int} (h : rd b i ≠ 58) : colon b op i = false := by simp [colon, th, h]
theorem EndsR.via {b : List Int} {s t : RSt} {L : List S39} (ok : Fine b s) (h : s.at_ < (b.length : Int)) (e : stepR b s = t) (hg : s.at_ < t.at_) (he : EndsR b t L) : EndsR b s L := EndsR.step ok h (by rw [e]; exact hg) (by rw [e]; exact he)
theorem no_mark {b : List Int} {r : RSt} (h0 : 0 ≤ r.at_) (h : rd b r.at_ ≠ 45 ∧ rd b r.at_ ≠ 46) : ¬ markOf b r > 0 := by
  unfold markOf
  split
  · rcases markR_cases b r.at_ h0 with h | ⟨_, _, h⟩ <;> omega
  · omega
theorem no_space {b : List Int} {r : RSt} (h : rd b r.at_ ≠ 13 ∧ rd b r.at_ ≠ 10 ∧ rd b r.at_ ≠ 32 ∧ rd b r.at_ ≠ 9 ∧ rd b r.at_ ≠ 35) : spaceS b r = none := by
  unfold spaceS
  rw [if_neg (by rw [brk_none h.1 h.2.1]; omega), if_neg (fun g => h.2.2.1 g.2), if_neg (by simp [Sc.blank, h.2.2.1, h.2.2.2.1]), if_neg (fun g => h.2.2.2.2 g.1)]
theorem no_bracket {b : List Int} {r : RSt} (h : rd b r.at_ ≠ 91 ∧ rd b r.at_ ≠ 123 ∧ rd b r.at_ ≠ 93 ∧ rd b r.at_ ≠ 125 ∧ (rd b r.at_ ≠ 44 ∨ r.op ≤ 0)) : bracketS b r = none := by
  unfold bracketS
  rw [if_neg h.1, if_neg h.2.1, if_neg h.2.2.1, if_neg h.2.2.2.1, if_neg (fun g => h.2.2.2.2.elim (fun x => x g.1) (fun x => by have := g.2; omega))]
theorem step_blank {b : List Int} {r : RSt} (h0 : 0 ≤ r.at_) (hr : r.at_ ≠ r.row) (h : rd b r.at_ = 32) : stepR b r = addR 3 (blanks b r.at_) r := by
  refine stepR_space (no_mark h0 (by omega)) ?_
  unfold spaceS
  rw [if_neg (by rw [brk_none (by omega) (by omega)]; omega), if_neg (fun g => hr g.1), if_pos (by rw [h]; decide)]
theorem step_break {b : List Int} {r : RSt} (h0 : 0 ≤ r.at_) (hb : 0 < brk b r.at_) : stepR b r = breakR b r := by
  have := brk_byte (b := b) (i := r.at_) (by omega)
  refine stepR_space (no_mark h0 (by omega)) ?_
  unfold spaceS
  rw [if_pos hb]
theorem upto_runs {n : Int} {p : Int → Bool} {e : Int} (h2 : e ≤ n) (he : e = n ∨ p e = false) : ∀ {i : Int}, i ≤ e → (∀ j, i ≤ j → j < e → p j = true) → upto n p i = e := by
  intro i h hp
  have key : ∀ (k : Nat) (i : Int), k = (e - i).toNat → i ≤ e → (∀ j, i ≤ j → j < e → p j = true) → upto n p i = e := by
    intro k
    induction k with
    | zero =>
      intro i hk h hp
      have : i = e := by omega
      subst this
      rcases he with h1 | h1
      · exact upto_end (by omega)
      · exact upto_stop h1
    | succ k ih =>
      intro i hk h hp
      rw [upto_go (by omega) (hp i (Int.le_refl _) (by omega))]
      exact ih (i + 1) (by omega) (by omega) (fun j g1 g2 => hp j (by omega) g2)
  exact key _ i rfl h hp
theorem brk_ten {b : List Int} {i : Int} (h : i < (b.length : Int)) (h10 : rd b i = 10) : brk b i = 1 := by
  unfold brk
  rw [if_neg (by simp [th, h10]), if_pos (by simp [th, h10, h])]
theorem byt_bytB {b : List Int} (h : Byt b) : bytB b = true := by
  unfold bytB
  rw [List.all_eq_true]
  intro x hx
  simpa using h x hx
theorem fine0 (b : List Int) : Fine b rs0 := by
  refine ⟨?_, ?_, ?_, ?_, ?_, ?_, ?_, ?_, ?_, ?_, .inl rfl⟩ <;> simp [rs0]
theorem toksR_by {b : List Int} (hB : Byt b) (hl : (b.length : Int) ≤ 16384) {L : List S39} (h : EndsR b rs0 L) : toksR b = some L := by
  unfold toksR
  obtain ⟨t, e2, f2⟩ := h (b.length + 1) (by show (b.length : Int) - 0 < _; omega)
  rw [if_neg (by omega), if_pos (byt_bytB hB), e2, ← f2]
  rfl
end Go.Proofs.Ytabdoommjdgogaa.Same
