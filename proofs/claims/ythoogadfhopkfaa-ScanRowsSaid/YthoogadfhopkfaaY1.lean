/- Rows of few signs: what the reference's scanner says of a row hangs on the row alone, wherever it stands. No program in it. -/
import Derived.Test.YthoogadfhopkfaaK2
namespace Go.Proofs.Ythoogadfhopkfaa.Same
open Go.RowKit Go.Proofs.Ythoogadfhopkfaa.Q Go.Proofs.YthoogadfhopkfaaW.PrintWords Go.Proofs.YthoogadfhopkfaaW.PrintLast Go.Proofs.YthoogadfhopkfaaW.PrintMore Go.Proofs.Ythoogadfhopkfaa.Sc Go.Proofs.Ythoogadfhopkfaa.Rf Go.Proofs.Ythoogadfhopkfaa.Pure
set_option linter.unusedVariables false
set_option linter.unusedSimpArgs false
theorem upto_runs {n : Int} {p : Int → Bool} {e : Int} (h2 : e ≤ n) (he : e = n ∨ p e = false) : ∀ {i : Int}, i ≤ e → (∀ j, i ≤ j → j < e → p j = true) → upto n p i = e := by
  intro i h hp
  have key : ∀ (k : Nat) (i : Int), k = (e - i).toNat → i ≤ e → (∀ j, i ≤ j → j < e → p j = true) → upto n p i = e := by
    intro k
    induction k with
    | zero =>
      intro i hk h hp
      have : i = e := by omega
      subst this
      rcases he with h1 | h1
      · exact upto_end (by omega)
      · exact upto_stop h1
    | succ k ih =>
      intro i hk h hp
      rw [upto_go (by omega) (hp i (Int.le_refl _) (by omega))]
      exact ih (i + 1) (by omega) (by omega) (fun j g1 g2 => hp j (by omega) g2)
  exact key _ i rfl h hp
/-- A byte that opens nothing, ends no row, and is a sign by itself. -/
def qb (c : Int) : Prop := 0 ≤ c ∧ c < 128 ∧ c ≠ 91 ∧ c ≠ 123 ∧ c ≠ 93 ∧ c ≠ 125 ∧ c ≠ 124 ∧ c ≠ 62 ∧ c ≠ 13 ∧ c ≠ 34
/-- The row from i to hi, and the same row d further on in other bytes. -/
structure Row (b1 b2 : List Int) (d i hi : Int) : Prop where
  i0 : 0 ≤ i
  d0 : 0 ≤ d
  ih : i ≤ hi
  h1 : hi ≤ (b1.length : Int)
  h2 : hi + d ≤ (b2.length : Int)
  eq : ∀ j, i ≤ j → j < hi → rd b2 (j + d) = rd b1 j
  ok : ∀ j, i ≤ j → j < hi → qb (rd b1 j) ∧ rd b1 j ≠ 10
  e1 : hi = (b1.length : Int) ∨ rd b1 hi = 10
  e2 : hi + d = (b2.length : Int) ∨ rd b2 (hi + d) = 10
section
variable {b1 b2 : List Int} {d i hi : Int}
theorem Row.self (h : Row b1 b2 d i hi) : Row b1 b1 0 i hi := ⟨h.i0, Int.le_refl _, h.ih, h.h1, by have := h.h1; omega, fun j _ _ => by rw [Int.add_zero], h.ok, h.e1, by rw [Int.add_zero]; exact h.e1⟩
theorem Row.brk0 (h : Row b1 b2 d i hi) {j : Int} (g1 : i ≤ j) (g2 : j < hi) : brk b1 j = 0 ∧ brk b2 (j + d) = 0 := by
  have hk := h.ok j g1 g2
  have he := h.eq j g1 g2
  have hq := hk.1
  unfold qb at hq
  exact ⟨brk_none (by omega) hk.2, brk_none (by omega) (by omega)⟩
theorem brk_ten {b : List Int} {i : Int} (h : i < (b.length : Int)) (h10 : rd b i = 10) : brk b i = 1 := by
  unfold brk
  rw [if_neg (by simp [th, h10]), if_pos (by simp [th, h10, h])]
theorem Row.line1 (h : Row b1 b2 d i hi) {j : Int} (g1 : i ≤ j) (g2 : j ≤ hi) : line b1 j = hi := by
  have := h.h1
  refine upto_runs (by omega) ?_ g2 (fun q q1 q2 => by simp [(h.brk0 (by omega) q2).1])
  rcases h.e1 with e | e
  · exact .inl e
  · by_cases c : hi = (b1.length : Int)
    · exact .inl c
    · exact .inr (by simp [brk_ten (show hi < (b1.length : Int) by omega) e])
theorem Row.line2 (h : Row b1 b2 d i hi) {j : Int} (g1 : i ≤ j) (g2 : j ≤ hi) : line b2 (j + d) = hi + d := by
  have := h.h2
  refine upto_runs (by omega) ?_ (by omega) (fun q q1 q2 => by have := (h.brk0 (j := q - d) (by omega) (by omega)).2; rw [show q - d + d = q by omega] at this; simp [this])
  rcases h.e2 with e | e
  · exact .inl e
  · by_cases c : hi + d = (b2.length : Int)
    · exact .inl c
    · exact .inr (by simp [brk_ten (show hi + d < (b2.length : Int) by omega) e])
/-- A run that ends with the row. -/
theorem Row.run (h : Row b1 b2 d i hi) {p : Int → Bool} (h10 : p 10 = false) {j : Int} (g1 : i ≤ j) (g2 : j ≤ hi) :
    upto b2.length (fun q => p (rd b2 q)) (j + d) = upto b1.length (fun q => p (rd b1 q)) j + d ∧ upto b1.length (fun q => p (rd b1 q)) j ≤ hi := by
  have hh1 := h.h1
  have hh2 := h.h2
  have key : ∀ (k : Nat) (j : Int), k = (hi - j).toNat → i ≤ j → j ≤ hi → upto b2.length (fun q => p (rd b2 q)) (j + d) = upto b1.length (fun q => p (rd b1 q)) j + d ∧ upto b1.length (fun q => p (rd b1 q)) j ≤ hi := by
    intro k
    induction k with
    | zero =>
      intro j hk g1 g2
      have hj : j = hi := by omega
      subst hj
      have s1 : upto b1.length (fun q => p (rd b1 q)) j = j := by
        rcases h.e1 with e | e
        · exact upto_end (by omega)
        · exact upto_stop (by rw [e]; exact h10)
      have s2 : upto b2.length (fun q => p (rd b2 q)) (j + d) = j + d := by
        rcases h.e2 with e | e
        · exact upto_end (by omega)
        · exact upto_stop (by rw [e]; exact h10)
      rw [s1, s2]
      exact ⟨rfl, Int.le_refl _⟩
    | succ k ih =>
      intro j hk g1 g2
      have he := h.eq j g1 (by omega)
      by_cases hp : p (rd b1 j) = true
      · rw [upto_go (p := fun q => p (rd b1 q)) (by omega) hp, upto_go (p := fun q => p (rd b2 q)) (by omega) (by rw [he]; exact hp), show j + d + 1 = j + 1 + d by omega]
        exact ih (j + 1) (by omega) (by omega) (by omega)
      · rw [upto_stop (p := fun q => p (rd b1 q)) (by simpa using hp), upto_stop (p := fun q => p (rd b2 q)) (by rw [he]; simpa using hp)]
        exact ⟨rfl, g2⟩
  exact key _ j rfl g1 g2
theorem spc_ten {b : List Int} {i : Int} (h : i = (b.length : Int) ∨ rd b i = 10) (hl : i ≤ (b.length : Int)) : spc b i = true := by
  unfold spc
  by_cases c : (b.length : Int) ≤ i
  · simp [c]
  · rw [brk_ten (by omega) (h.resolve_left (by omega))]
    simp
theorem Row.spc (h : Row b1 b2 d i hi) {j : Int} (g1 : i ≤ j) (g2 : j ≤ hi) : spc b2 (j + d) = spc b1 j := by
  have hh1 := h.h1
  have hh2 := h.h2
  by_cases c : j = hi
  · subst c
    rw [spc_ten h.e2 h.h2, spc_ten h.e1 h.h1]
  · have hk := h.brk0 g1 (by omega)
    unfold Sc.spc
    rw [hk.1, hk.2, h.eq j g1 (by omega), decide_eq_false (show ¬ (b2.length : Int) ≤ j + d by omega), decide_eq_false (show ¬ (b1.length : Int) ≤ j by omega)]
theorem Row.colon (h : Row b1 b2 d i hi) {j : Int} (g1 : i ≤ j) (g2 : j < hi) : colon b2 0 (j + d) = colon b1 0 j := by
  have hh1 := h.h1
  have hh2 := h.h2
  have hs := h.spc (j := j + 1) (by omega) (by omega)
  rw [show j + 1 + d = j + d + 1 by omega] at hs
  unfold Sc.colon th
  rw [h.eq j g1 g2, hs, decide_eq_true (show j + d < (b2.length : Int) by omega), decide_eq_true (show j < (b1.length : Int) by omega)]
  rfl
theorem Row.mark (h : Row b1 b2 d i hi) (hlt : i < hi) : markR b2 (i + d) = markR b1 i ∧ (markR b1 i ≠ 0 → i + 3 ≤ hi) := by
  have hh1 := h.h1
  have hh2 := h.h2
  have hi0 := h.i0
  have hd0 := h.d0
  have none_of : ∀ {b : List Int} {i hi : Int}, 0 ≤ i → i < hi → hi < i + 3 → hi ≤ (b.length : Int) → (hi = (b.length : Int) ∨ rd b hi = 10) → markR b i = 0 := by
    intro b i hi a0 a1 a2 a3 a4
    rcases markR_cases b i a0 with e | ⟨e, e2, e3⟩
    · exact e
    · exfalso
      have h10 := a4.resolve_left (by omega)
      have hne : markR b i ≠ 0 := by omega
      refine hne ?_
      unfold markR
      rw [ba_in a0 (by omega)]
      rcases (by omega : hi = i + 1 ∨ hi = i + 2) with q | q
      · rw [if_pos (.inr (.inl (by rw [← q, h10]; omega)))]
      · rw [if_pos (.inr (.inr (.inl (by rw [← q, h10]; omega))))]
  by_cases c : i + 3 ≤ hi
  · refine ⟨?_, fun _ => c⟩
    have e0 := h.eq i (Int.le_refl _) hlt
    have e1 := h.eq (i + 1) (by omega) (by omega)
    have e2 := h.eq (i + 2) (by omega) (by omega)
    have e3 := h.spc (j := i + 3) (by omega) c
    rw [show i + 1 + d = i + d + 1 by omega] at e1
    rw [show i + 2 + d = i + d + 2 by omega] at e2
    rw [show i + 3 + d = i + d + 3 by omega] at e3
    unfold markR
    rw [ba_in (by omega) (by omega), ba_in (by omega) (by omega), e0, e1, e2, e3]
    have p1 : ¬ (b2.length : Int) < i + d + 3 := by omega
    have p2 : ¬ (b1.length : Int) < i + 3 := by omega
    simp only [p1, p2, false_or]
  · have z1 := none_of (b := b1) (i := i) (hi := hi) hi0 hlt (by omega) hh1 h.e1
    have z2 := none_of (b := b2) (i := i + d) (hi := hi + d) (by omega) (by omega) (by omega) hh2 h.e2
    rw [z1, z2]
    exact ⟨rfl, fun g => absurd rfl g⟩
theorem Row.sgl (h : Row b1 b2 d i hi) : ∀ (k : Nat) (j : Int), i ≤ j → sglR b2 (hi + d) k (j + d) = sglR b1 hi k j + d
  | 0, j, g => rfl
  | k + 1, j, g => by
    simp only [sglR]
    by_cases c : j < hi
    · rw [if_pos c, if_pos (by omega), h.eq j g c]
      by_cases e : rd b1 j = 39
      · rw [if_pos e, if_pos e]
        by_cases f : j + 1 < hi
        · have q := h.eq (j + 1) (by omega) f
          rw [show j + 1 + d = j + d + 1 by omega] at q
          by_cases g2 : rd b1 (j + 1) = 39
          · rw [if_pos ⟨by omega, by rw [q]; exact g2⟩, if_pos ⟨f, g2⟩, show j + d + 2 = j + 2 + d by omega]
            exact h.sgl k (j + 2) (by omega)
          · rw [if_neg (fun x => g2 (by rw [← q]; exact x.2)), if_neg (fun x => g2 x.2)]
            omega
        · rw [if_neg (fun x => f (by have := x.1; omega)), if_neg (fun x => f x.1)]
          omega
      · rw [if_neg e, if_neg e, show j + d + 1 = j + 1 + d by omega]
        exact h.sgl k (j + 1) (by omega)
    · rw [if_neg c, if_neg (by omega)]
theorem sglR_in (b : List Int) (e : Int) : ∀ (k : Nat) (j m : Int), m < j → m < e → m < sglR b e k j ∧ sglR b e k j ≤ e
  | 0, j, m, h, h2 => ⟨h2, Int.le_refl _⟩
  | k + 1, j, m, h, h2 => by
    simp only [sglR]
    split
    · split
      · split
        · exact sglR_in b e k (j + 2) m (by omega) h2
        · omega
      · exact sglR_in b e k (j + 1) m (by omega) h2
    · exact ⟨h2, Int.le_refl _⟩
theorem nx_low {b : List Int} {x : Int} (h0 : 0 ≤ x) (h1 : x < (b.length : Int)) (h : rd b x < 128) : nx (b.drop x.toNat) = (rd b x, 1) := sg_low h0 h1 h
theorem Row.stop (h : Row b1 b2 d i hi) {j : Int} (g1 : i < j) (g2 : j < hi) : plStop b2 0 (j + d) = plStop b1 0 j := by
  have hh1 := h.h1
  have hh2 := h.h2
  have hi0 := h.i0
  have hd0 := h.d0
  have hk := (h.ok j (by omega) g2).1
  unfold qb at hk
  have e := h.eq j (by omega) g2
  have e' := h.eq (j - 1) (by omega) (by omega)
  rw [show j - 1 + d = j + d - 1 by omega] at e'
  unfold plStop
  rw [nx_low (b := b2) (by omega) (by omega) (by omega), nx_low (b := b1) (by omega) (by omega) (by omega), (h.brk0 (by omega) g2).1, (h.brk0 (by omega) g2).2, h.colon (by omega) g2, e, e']
theorem Row.plain (h : Row b1 b2 d i hi) : ∀ (k1 k2 : Nat) (j : Int), i < j → j ≤ hi → (b1.length : Int) - j ≤ (k1 : Int) → (b2.length : Int) - (j + d) ≤ (k2 : Int) → plR b2 0 k2 (j + d) = plR b1 0 k1 j + d ∧ plR b1 0 k1 j ≤ hi ∧ j ≤ plR b1 0 k1 j := by
  have hh1 := h.h1
  have hh2 := h.h2
  have hi0 := h.i0
  have hd0 := h.d0
  have fin : ∀ {b : List Int} {hi : Int} (k : Nat), (hi = (b.length : Int) ∨ rd b hi = 10) → hi ≤ (b.length : Int) → plR b 0 k hi = hi := by
    intro b hi k a1 a2
    cases k with
    | zero => rfl
    | succ k =>
      simp only [plR]
      by_cases c : hi < (b.length : Int)
      · rw [if_pos c, if_pos (by unfold plStop; rw [brk_ten c (a1.resolve_left (by omega))]; simp)]
      · rw [if_neg c]
  intro k1
  induction k1 with
  | zero =>
    intro k2 j g1 g2 m1 m2
    have hj : j = hi := by omega
    subst hj
    rw [fin k2 h.e2 hh2, fin 0 h.e1 hh1]
    exact ⟨rfl, Int.le_refl _, Int.le_refl _⟩
  | succ k1 ih =>
    intro k2 j g1 g2 m1 m2
    by_cases c : j = hi
    · subst c
      rw [fin k2 h.e2 hh2, fin _ h.e1 hh1]
      exact ⟨rfl, Int.le_refl _, Int.le_refl _⟩
    · obtain ⟨k2, rfl⟩ : ∃ k', k2 = k' + 1 := ⟨k2 - 1, by omega⟩
      have hs := h.stop g1 (by omega)
      have hk := (h.ok j (by omega) (by omega)).1
      unfold qb at hk
      have e := h.eq j (by omega) (by omega)
      simp only [plR]
      rw [if_pos (show j < (b1.length : Int) by omega), if_pos (show j + d < (b2.length : Int) by omega), hs, nx_low (b := b2) (by omega) (by omega) (by omega), nx_low (b := b1) (by omega) (by omega) (by omega)]
      by_cases s : plStop b1 0 j = true
      · rw [if_pos s, if_pos s]
        exact ⟨rfl, g2, Int.le_refl _⟩
      · rw [if_neg s, if_neg s]
        simp only
        rw [show j + d + 1 = j + 1 + d by omega]
        have := ih k2 (j + 1) (by omega) (by omega) (by omega) (by omega)
        exact ⟨this.1, this.2.1, by omega⟩
theorem Row.trim (h : Row b1 b2 d i hi) : ∀ (k : Nat) (j : Int), j ≤ hi → trimR b2 (i + 1 + d) k (j + d) = trimR b1 (i + 1) k j + d
  | 0, j, g => rfl
  | k + 1, j, g => by
    simp only [trimR]
    by_cases c : j > i + 1
    · have e := h.eq (j - 1) (by omega) (by omega)
      rw [show j - 1 + d = j + d - 1 by omega] at e
      by_cases s : Sc.blank (rd b1 (j - 1)) = true
      · rw [if_pos ⟨by omega, by rw [e]; exact s⟩, if_pos ⟨c, s⟩, show j + d - 1 = j - 1 + d by omega]
        exact h.trim k (j - 1) (by omega)
      · rw [if_neg (fun x => s (by rw [← e]; exact x.2)), if_neg (fun x => s x.2)]
    · rw [if_neg (fun x => c (by have := x.1; omega)), if_neg (fun x => c x.1)]
theorem Row.plainR (h : Row b1 b2 d i hi) (hlt : i < hi) : plainR b2 0 (i + d) = plainR b1 0 i + d ∧ i < Rf.plainR b1 0 i ∧ Rf.plainR b1 0 i ≤ hi := by
  have hh1 := h.h1
  have hh2 := h.h2
  have hi0 := h.i0
  have hd0 := h.d0
  have hk := (h.ok i (Int.le_refl _) hlt).1
  unfold qb at hk
  have e := h.eq i (Int.le_refl _) hlt
  unfold Rf.plainR
  rw [nx_low (b := b2) (by omega) (by omega) (by omega), nx_low (b := b1) (by omega) (by omega) (by omega)]
  simp only
  have hp := h.plain ((b1.length : Int) - (i + 1)).toNat ((b2.length : Int) - (i + d + 1)).toNat (i + 1) (by omega) (by omega) (by omega) (by omega)
  rw [show i + 1 + d = i + d + 1 by omega] at hp
  rw [hp.1]
  generalize plR b1 0 ((b1.length : Int) - (i + 1)).toNat (i + 1) = x at *
  have ht := h.trim (x + d - (i + d + 1)).toNat x hp.2.1
  rw [show i + 1 + d = i + d + 1 by omega] at ht
  rw [ht, show (x + d - (i + d + 1)).toNat = (x - (i + 1)).toNat by omega]
  have hr := trimR_range b1 (i + 1) (x - (i + 1)).toNat x (by omega)
  exact ⟨rfl, by omega, by omega⟩
end
end Go.Proofs.Ythoogadfhopkfaa.Same
