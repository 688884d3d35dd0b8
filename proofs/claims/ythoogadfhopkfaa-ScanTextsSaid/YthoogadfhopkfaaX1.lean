/- A head, rows that are deeper, and a row that is not: their tokens. No program in it. -/
import Derived.Test.YthoogadfhopkfaaK2

namespace Go.Proofs.Ythoogadfhopkfaa.Same
open Go.RowKit Go.Proofs.Ythoogadfhopkfaa.Q Go.Proofs.YthoogadfhopkfaaW.PrintWords Go.Proofs.YthoogadfhopkfaaW.PrintLast Go.Proofs.YthoogadfhopkfaaW.PrintMore Go.Proofs.Ythoogadfhopkfaa.Sc Go.Proofs.Ythoogadfhopkfaa.Rf Go.Proofs.Ythoogadfhopkfaa.Pure
set_option linter.unusedVariables false
set_option linter.unusedSimpArgs false
theorem upto_run {n : Int} {p : Int → Bool} {e : Int} (h2 : e ≤ n) (he : e = n ∨ p e = false) : ∀ {i : Int}, i ≤ e → (∀ j, i ≤ j → j < e → p j = true) → upto n p i = e := by
  intro i h hp
  have key : ∀ (k : Nat) (i : Int), k = (e - i).toNat → i ≤ e → (∀ j, i ≤ j → j < e → p j = true) → upto n p i = e := by
    intro k
    induction k with
    | zero =>
      intro i hk h hp
      have : i = e := by omega
      subst this
      rcases he with h1 | h1
      · exact upto_end (by omega)
      · exact upto_stop h1
    | succ k ih =>
      intro i hk h hp
      rw [upto_go (by omega) (hp i (Int.le_refl _) (by omega))]
      exact ih (i + 1) (by omega) (by omega) (fun j g1 g2 => hp j (by omega) g2)
  exact key _ i rfl h hp
def sp (n : Nat) : List Int := List.replicate n 32
def pcb (k : Nat) : List Int := if k = 0 then [45, 32, 97] else if k = 1 then [91] else if k = 2 then [34, 111, 112, 101, 110] else if k = 3 then [35, 32, 110, 111, 32, 99, 111, 109, 109, 101, 110, 116] else if k = 4 then [45, 45, 45] else [38, 120]
/-- A row of a block text. -/
def row (I k : Nat) : List Int := sp (I + 1) ++ pcb k ++ [10]
def rowsOf (I : Nat) : List Nat → List Int
  | [] => []
  | k :: ks => row I k ++ rowsOf I ks
theorem rowsOf_app (I : Nat) (a b : List Nat) : rowsOf I (a ++ b) = rowsOf I a ++ rowsOf I b := by
  induction a with
  | nil => rfl
  | cons k a ih => simp only [List.cons_append, rowsOf, ih, List.append_assoc]
theorem row_facts : ∀ I : Nat, I < 5 → ∀ k : Nat, k < 6 → I + 3 ≤ (row I k).length ∧ (row I k).length ≤ 20 ∧ rd (row I k) ((row I k).length - 1 : Nat) = 10 ∧ rd (row I k) (I + 1 : Nat) ≠ 32 ∧ rd (row I k) (I + 1 : Nat) ≠ 9 := by decide +kernel
theorem row_in : ∀ I : Nat, I < 5 → ∀ k : Nat, k < 6 → ∀ j : Nat, j < (row I k).length - 1 → rd (row I k) (j : Int) ≠ 10 ∧ rd (row I k) (j : Int) ≠ 13 ∧ (j < I + 1 → rd (row I k) (j : Int) = 32) := by decide +kernel
theorem row_byt : ∀ I : Nat, I < 5 → ∀ k : Nat, k < 6 → bytB (row I k) = true := by decide +kernel
theorem rows_byt (I : Nat) (hI : I < 5) : ∀ ks : List Nat, (∀ k ∈ ks, k < 6) → Byt (rowsOf I ks)
  | [], _ => Byt.nil
  | k :: ks, h => (bytB_byt (row_byt I hI k (h k (by simp)))).append (rows_byt I hI ks fun x hx => h x (by simp [hx]))
theorem rows_len (I : Nat) (hI : I < 5) : ∀ ks : List Nat, (∀ k ∈ ks, k < 6) → (rowsOf I ks).length ≤ 20 * ks.length
  | [], _ => by simp [rowsOf]
  | k :: ks, h => by
    have h1 := (row_facts I hI k (h k (by simp))).2.1
    have h2 := rows_len I hI ks fun x hx => h x (by simp [hx])
    simp only [rowsOf, List.length_append, List.length_cons]
    omega
/-- What a text's rows leave of the scanner. -/
def after (s : RSt) (e : Int) (l : List S32) : RSt := ⟨e, e, s.op, -1, true, -2, l⟩
theorem rows_go (b post : List Int) (I : Nat) (hI : I < 5) (hstop : ∀ p : Int, 0 ≤ p → (b.length : Int) = p + post.length → rd b p ≠ 45 ∧ rd b p ≠ 46 ∧ blanks b p < line b p ∧ spaces b p - p ≤ (I : Int)) (hpost : 0 < post.length) :
    ∀ (ks : List Nat) (u : List Int) (m : Nat) (s : RSt), (∀ k ∈ ks, k < 6) → b = u ++ (rowsOf I ks ++ post) → s.at_ = (u.length : Int) → s.row = s.at_ → s.base = -1 → s.only = true → s.text = -2 → Fine b s → (b.length : Int) - s.at_ ≤ (m : Int) →
    ∃ tl : List S32, tl.length = ks.length ∧ (∀ t ∈ tl, t.f0 = 19) ∧ rowsR b (I : Int) m s = after s ((u.length : Int) + (rowsOf I ks).length) (s.l ++ tl) ∧ Fine b (after s ((u.length : Int) + (rowsOf I ks).length) (s.l ++ tl))
  | [], u, m, s, hk, hb, ha, hr, hbs, ho, ht, hf, hm => by
    have hbl : (b.length : Int) = (u.length : Int) + post.length := by rw [hb]; simp [rowsOf]
    obtain ⟨h1, h2, h3, h4⟩ := hstop (u.length : Int) (by omega) hbl
    have hs : s = after s ((u.length : Int) + ((rowsOf I []).length : Int)) (s.l ++ []) := by
      cases s
      simp only [rowsOf, List.length_nil, List.append_nil, after, RSt.mk.injEq] at *
      simp [ha, hr, hbs, ho, ht]
    refine ⟨[], rfl, (fun t ht => by cases ht), ?_, by rw [← hs]; exact hf⟩
    rw [← hs]
    have hmk : markR b s.at_ = 0 := by
      rcases markR_cases b s.at_ (by omega) with h | ⟨_, _, h⟩
      · exact h
      · rw [ha] at h; omega
    obtain ⟨m, rfl⟩ : ∃ m', m = m' + 1 := ⟨m - 1, by omega⟩
    have e1 : bl2 b s = blanks b s.at_ := bl2_eq hf.a1
    have e2 : sp2 b s = spaces b s.at_ := sp2_eq hf.a1
    simp only [rowsR]
    rw [e1, e2, if_pos ⟨by omega, hmk⟩, ha, if_pos ⟨h3, h4⟩]
  | k :: ks, u, m, s, hk, hb, ha, hr, hbs, ho, ht, hf, hm => by
    have hk6 := hk k (by simp)
    obtain ⟨f1, f2, f3, f4, f5⟩ := row_facts I hI k hk6
    have fin := row_in I hI k hk6
    have hb2 : b = u ++ (row I k ++ (rowsOf I ks ++ post)) := by rw [hb]; simp only [rowsOf, List.append_assoc]
    have hbl : (b.length : Int) = (u.length : Int) + (row I k).length + (rowsOf I ks).length + post.length := by rw [hb2]; simp; omega
    have hrd : ∀ j : Nat, j < (row I k).length → rd b ((u.length : Int) + j) = rd (row I k) (j : Int) := fun j hj => by
      rw [hb2, rd_app_r (by omega), rd_app_l (by omega) (by omega)]
    generalize hn : (row I k).length = n at *
    obtain ⟨m, rfl⟩ : ∃ m', m = m' + 1 := ⟨m - 1, by omega⟩
    have at1 : rd b ((u.length : Int) + ((n - 1 : Nat) : Int)) = 10 := by rw [hrd _ (by omega)]; exact f3
    have hbrk : brk b ((u.length : Int) + ((n - 1 : Nat) : Int)) = 1 := by
      unfold brk
      rw [if_neg (by simp [th, at1]), if_pos (by simp [th, at1]; omega)]
    have nat_of : ∀ j : Int, (u.length : Int) ≤ j → ∃ q : Nat, j = (u.length : Int) + q := fun j h => ⟨(j - u.length).toNat, by omega⟩
    have hline : line b s.at_ = (u.length : Int) + ((n - 1 : Nat) : Int) := by
      rw [ha]
      refine upto_run (by omega) (.inr (by simp [hbrk])) (by omega) (fun j g1 g2 => ?_)
      obtain ⟨q, rfl⟩ := nat_of j g1
      have := fin q (by omega)
      have e := hrd q (by omega)
      have : brk b ((u.length : Int) + q) = 0 := brk_none (by rw [e]; exact this.2.1) (by rw [e]; exact this.1)
      simp [this]
    have atI : rd b ((u.length : Int) + ((I + 1 : Nat) : Int)) = rd (row I k) ((I + 1 : Nat) : Int) := hrd _ (by omega)
    have hsp : spaces b s.at_ = (u.length : Int) + ((I + 1 : Nat) : Int) := by
      rw [ha]
      refine upto_run (by omega) (.inr (by rw [atI]; simpa using f4)) (by omega) (fun j g1 g2 => ?_)
      obtain ⟨q, rfl⟩ := nat_of j g1
      have e := hrd q (by omega)
      have := (fin q (by omega)).2.2 (by omega)
      rw [e, this]
      rfl
    have hblk : blanks b s.at_ = (u.length : Int) + ((I + 1 : Nat) : Int) := by
      rw [ha]
      refine upto_run (by omega) (.inr ?_) (by omega) (fun j g1 g2 => ?_)
      · rw [atI, Bool.eq_false_iff]
        simp only [Sc.blank, ne_eq, Bool.or_eq_true, beq_iff_eq]
        exact fun h => h.elim f4 f5
      · obtain ⟨q, rfl⟩ := nat_of j g1
        have e := hrd q (by omega)
        have := (fin q (by omega)).2.2 (by omega)
        rw [e, this]
        rfl
    have hmk : markR b s.at_ = 0 := by
      rcases markR_cases b s.at_ (by omega) with h | ⟨_, _, h⟩
      · exact h
      · have e := hrd 0 (by omega)
        have := (fin 0 (by omega)).2.2 (by omega)
        rw [Int.natCast_zero, Int.add_zero] at e
        rw [ha, e] at h
        simp only [Int.natCast_zero] at this
        omega
    have e1 : bl2 b s = blanks b s.at_ := bl2_eq hf.a1
    have e2 : sp2 b s = spaces b s.at_ := sp2_eq hf.a1
    have hgo : rowsR b (I : Int) (m + 1) s = rowsR b (I : Int) m (nextR (addR 19 ((u.length : Int) + n) s)) := by
      simp only [rowsR]
      rw [e1, e2, if_pos ⟨by omega, hmk⟩, hblk, hsp, if_neg (by omega), hline, hbrk, show (u.length : Int) + ((n - 1 : Nat) : Int) + 1 = (u.length : Int) + n by omega]
    have hf2 : Fine b (nextR (addR 19 ((u.length : Int) + n) s)) := (hf.add 19 (by omega) (by omega)).next
    obtain ⟨tl, t1, t2, t3, t4⟩ := rows_go b post I hI hstop hpost ks (u ++ row I k) m (nextR (addR 19 ((u.length : Int) + n) s)) (fun x hx => hk x (by simp [hx])) (by rw [hb2]; simp only [List.append_assoc]) (by show (u.length : Int) + n = _; rw [List.length_append, hn]; omega) rfl rfl rfl ht hf2 (by show (b.length : Int) - ((u.length : Int) + n) ≤ _; omega)
    have hend : ((u ++ row I k).length : Int) + ((rowsOf I ks).length : Int) = (u.length : Int) + ((rowsOf I (k :: ks)).length : Int) := by simp [rowsOf]; omega
    have hl : (nextR (addR 19 ((u.length : Int) + n) s)).l ++ tl = s.l ++ ((⟨19, s.at_, (u.length : Int) + n⟩ : S32) :: tl) := by
      show (s.l ++ [_]) ++ tl = _
      rw [List.append_assoc]
      rfl
    have haft : ∀ e l, after (nextR (addR 19 ((u.length : Int) + n) s)) e l = after s e l := fun _ _ => rfl
    rw [hend, hl, haft] at t3 t4
    refine ⟨(⟨19, s.at_, (u.length : Int) + n⟩ : S32) :: tl, by simp [t1], fun t htm => ?_, by rw [hgo]; exact t3, t4⟩
    rcases List.mem_cons.mp htm with rfl | h
    · rfl
    · exact t2 t h
end Go.Proofs.Ythoogadfhopkfaa.Same
namespace Go.Proofs.Ythoogadfhopkfaa.Same
open Go.RowKit Go.Proofs.Ythoogadfhopkfaa.Q Go.Proofs.YthoogadfhopkfaaW.PrintWords Go.Proofs.YthoogadfhopkfaaW.PrintLast Go.Proofs.YthoogadfhopkfaaW.PrintMore Go.Proofs.Ythoogadfhopkfaa.Sc Go.Proofs.Ythoogadfhopkfaa.Rf Go.Proofs.Ythoogadfhopkfaa.Pure
set_option linter.unusedVariables false
set_option linter.unusedSimpArgs false
def cnt (l : List S32) : Nat := l.countP fun t => t.f0 == 19
theorem cnt_app (a b : List S32) : cnt (a ++ b) = cnt a + cnt b := List.countP_append
theorem cnt_all : ∀ l : List S32, (∀ t ∈ l, t.f0 = 19) → cnt l = l.length
  | [], _ => rfl
  | x :: l, h => by
    have h1 := cnt_all l fun t ht => h t (by simp [ht])
    have h2 := h x (by simp)
    unfold cnt at h1 ⊢
    rw [List.countP_cons, h1, h2]
    rfl
theorem head_facts : ∀ I : Nat, I < 5 → ∀ j : Nat, j < I + 5 → rd (sp I ++ [107, 58, 32, 124, 10]) (j : Int) = if j < I then 32 else if j = I then 107 else if j = I + 1 then 58 else if j = I + 2 then 32 else if j = I + 3 then 124 else 10 := by decide +kernel
theorem post_facts : ∀ I : Nat, I < 5 → ∀ j : Nat, j < I + 3 → rd (sp I ++ [101, 110, 100]) (j : Int) = if j < I then 32 else if j = I then 101 else if j = I + 1 then 110 else 100 := by decide +kernel
theorem head_byt : ∀ I : Nat, I < 5 → bytB (sp I ++ [107, 58, 32, 124, 10]) = true ∧ bytB (sp I ++ [101, 110, 100]) = true := by decide +kernel
set_option maxHeartbeats 1000000 in
theorem texts_head (b : List Int) (hB : Byt b) (I : Nat) (hI : I < 5) (hbl : (I : Int) + 5 < (b.length : Int)) (hH : ∀ j : Nat, j < I + 5 → rd b (j : Int) = if j < I then 32 else if j = I then 107 else if j = I + 1 then 58 else if j = I + 2 then 32 else if j = I + 3 then 124 else 10) :
    ∃ t4 : RSt, Reach b rs0 t4 ∧ Fine b t4 ∧ t4.at_ = I + 4 ∧ t4.text = I ∧ t4.op = 0 ∧ cnt t4.l = 0 ∧ t4.l.length ≤ 5 ∧ brk b ((I : Int) + 4) = 1 := by
  have h107 : rd b (I : Int) = 107 := by rw [hH I (by omega)]; simp
  have h58 : rd b ((I : Int) + 1) = 58 := by have := hH (I + 1) (by omega); rw [if_neg (by omega), if_neg (by omega), if_pos rfl] at this; simpa using this
  have h32 : rd b ((I : Int) + 2) = 32 := by have := hH (I + 2) (by omega); rw [if_neg (by omega), if_neg (by omega), if_neg (by omega), if_pos rfl] at this; simpa using this
  have h124 : rd b ((I : Int) + 3) = 124 := by have := hH (I + 3) (by omega); rw [if_neg (by omega), if_neg (by omega), if_neg (by omega), if_neg (by omega), if_pos rfl] at this; simpa using this
  have h10 : rd b ((I : Int) + 4) = 10 := by have := hH (I + 4) (by omega); rw [if_neg (by omega), if_neg (by omega), if_neg (by omega), if_neg (by omega), if_neg (by omega)] at this; simpa using this
  have nat_of : ∀ (a : Int) (j : Int), a ≤ j → ∃ q : Nat, j = a + q := fun a j h => ⟨(j - a).toNat, by omega⟩
  -- the head's own indent
  have S0 : ∃ t0 : RSt, Reach b rs0 t0 ∧ Fine b t0 ∧ t0.at_ = I ∧ t0.row = 0 ∧ t0.op = 0 ∧ t0.base = -1 ∧ t0.only = true ∧ t0.text = -2 ∧ cnt t0.l = 0 ∧ t0.l.length ≤ 1 := by
    by_cases h0 : I = 0
    · subst h0
      exact ⟨rs0, Reach.refl _ _, fine0 b, rfl, rfl, rfl, rfl, rfl, rfl, rfl, by decide⟩
    · have hs : spaces b 0 = I := by
        refine upto_run (by omega) (.inr (by rw [h107]; decide)) (by omega) (fun j g1 g2 => ?_)
        obtain ⟨q, rfl⟩ := nat_of 0 j g1
        rw [Int.zero_add, hH q (by omega), if_pos (by omega)]
        rfl
      have h00 := hH 0 (by omega)
      rw [if_pos (by omega)] at h00
      have e := step_indent (b := b) (r := rs0) (by decide) rfl h00
      have hf := (fine0 b).add 2 (e := (I : Int)) (by show (0 : Int) < I; omega) (by omega)
      refine ⟨addR 2 I rs0, Reach.step (fine0 b) (by show (0 : Int) < _; omega) (by rw [e]; show addR 2 (spaces b 0) rs0 = _; rw [hs]) (by show (0 : Int) < I; omega), hf, rfl, rfl, rfl, rfl, rfl, rfl, rfl, by simp [addR, rs0]⟩
  obtain ⟨t0, R0, F0, a0, w0, o0, b0, y0, x0, c0, l0⟩ := S0
  have hcol : colon b 0 ((I : Int) + 1) = true := by
    unfold colon
    simp [th, h58, spc, h32, Sc.blank, show (I : Int) + 1 + 1 = (I : Int) + 2 by omega]
    omega
  -- k
  have e1 : stepR b t0 = addR 15 ((I : Int) + 1) t0 := by
    rw [step_plain hB (by omega) (by omega) (by rw [a0, h107]; decide), a0, o0]
    rw [plain_to (e := (I : Int) + 1) hB (by omega) (by omega) (by omega) (fun j g1 g2 => by rw [show j = (I : Int) by omega, h107]; decide) (fun j g1 g2 => by omega) (.inr (by unfold plStop; simp [hcol])) (.inl rfl)]
  have F1 := F0.add 15 (e := (I : Int) + 1) (by omega) (by omega)
  have R1 := R0.trans (Reach.step F0 (by omega) e1 (by show t0.at_ < (I : Int) + 1; omega))
  have bs1 : (addR 15 ((I : Int) + 1) t0).base = I := by
    show adBase 15 t0.at_ t0.row t0.base = _
    rw [a0, w0, b0]
    unfold adBase
    rw [if_pos (by decide)]
    omega
  have c1 : cnt (addR 15 ((I : Int) + 1) t0).l = 0 ∧ (addR 15 ((I : Int) + 1) t0).l.length ≤ 2 := by
    refine ⟨?_, by show (t0.l ++ [_]).length ≤ 2; simp; omega⟩
    show cnt (t0.l ++ [_]) = 0
    rw [cnt_app, c0]; rfl
  have g1 : (addR 15 ((I : Int) + 1) t0).at_ = I + 1 ∧ (addR 15 ((I : Int) + 1) t0).row = 0 ∧ (addR 15 ((I : Int) + 1) t0).op = 0 := ⟨rfl, w0, o0⟩
  generalize addR 15 ((I : Int) + 1) t0 = t1 at *
  obtain ⟨a1, w1, o1⟩ := g1
  -- :
  have e2 : stepR b t1 = addR 6 ((I : Int) + 2) t1 := by
    rw [step_colon (by omega) (by rw [a1]; exact h58) (by rw [a1, o1]; exact hcol), a1, show (I : Int) + 1 + 1 = (I : Int) + 2 by omega]
  have F2 := F1.add 6 (e := (I : Int) + 2) (by omega) (by omega)
  have R2 := R1.trans (Reach.step F1 (by omega) e2 (by show t1.at_ < (I : Int) + 2; omega))
  have bs2 : (addR 6 ((I : Int) + 2) t1).base = I := by
    show adBase 6 t1.at_ t1.row t1.base = _
    rw [bs1]
    unfold adBase
    rw [if_neg (by simp [counts])]
  have c2 : cnt (addR 6 ((I : Int) + 2) t1).l = 0 ∧ (addR 6 ((I : Int) + 2) t1).l.length ≤ 3 := by
    refine ⟨?_, by show (t1.l ++ [_]).length ≤ 3; simp; omega⟩
    show cnt (t1.l ++ [_]) = 0
    rw [cnt_app, c1.1]; rfl
  have g2 : (addR 6 ((I : Int) + 2) t1).at_ = I + 2 ∧ (addR 6 ((I : Int) + 2) t1).row = 0 ∧ (addR 6 ((I : Int) + 2) t1).op = 0 := ⟨rfl, w1, o1⟩
  generalize addR 6 ((I : Int) + 2) t1 = t2 at *
  obtain ⟨a2, w2, o2⟩ := g2
  -- a blank
  have hbk : blanks b ((I : Int) + 2) = I + 3 := by
    refine upto_run (by omega) (.inr (by rw [h124]; decide)) (by omega) (fun j g1 g2 => ?_)
    rw [show j = (I : Int) + 2 by omega, h32]
    rfl
  have e3 : stepR b t2 = addR 3 ((I : Int) + 3) t2 := by
    rw [step_blank (by omega) (by omega) (by rw [a2]; exact h32), a2, hbk]
  have F3 := F2.add 3 (e := (I : Int) + 3) (by omega) (by omega)
  have R3 := R2.trans (Reach.step F2 (by omega) e3 (by show t2.at_ < (I : Int) + 3; omega))
  have bs3 : (addR 3 ((I : Int) + 3) t2).base = I := bs2
  have c3 : cnt (addR 3 ((I : Int) + 3) t2).l = 0 ∧ (addR 3 ((I : Int) + 3) t2).l.length ≤ 4 := by
    refine ⟨?_, by show (t2.l ++ [_]).length ≤ 4; simp; omega⟩
    show cnt (t2.l ++ [_]) = 0
    rw [cnt_app, c2.1]; rfl
  have g3 : (addR 3 ((I : Int) + 3) t2).at_ = I + 3 ∧ (addR 3 ((I : Int) + 3) t2).row = 0 ∧ (addR 3 ((I : Int) + 3) t2).op = 0 := ⟨rfl, w2, o2⟩
  generalize addR 3 ((I : Int) + 3) t2 = t3 at *
  obtain ⟨a3, w3, o3⟩ := g3
  -- the head
  have hbr : brk b ((I : Int) + 4) = 1 := by
    unfold brk
    rw [if_neg (by simp [th, h10]), if_pos (by simp [th, h10]; omega)]
  have hhd : headR b 0 ((I : Int) + 3) = 1 := by
    have hj : headJ b ((I : Int) + 3) = I + 4 := by
      unfold headJ
      rw [ba_in (by omega) (by omega), show (I : Int) + 3 + 1 = (I : Int) + 4 by omega, h10, if_neg (by decide)]
    have hkk : headK b ((I : Int) + 3) = I + 4 := by
      unfold headK
      rw [hj]
      exact upto_stop (by rw [h10]; rfl)
    unfold headR
    rw [if_neg (by rw [h124]; omega), hkk, if_neg (by rw [hbr]; omega), hj]
    omega
  have e4 : stepR b t3 = addR 18 ((I : Int) + 4) { t3 with text := (I : Int) } := by
    rw [step_head (by omega) (by rw [a3]; exact h124) (by rw [a3, o3]; exact hhd) (by omega), a3, bs3, show (I : Int) + 3 + 1 = (I : Int) + 4 by omega]
  have F4 := (F3.text (t := (I : Int)) (by omega) (by omega)).add 18 (e := (I : Int) + 4) (by show t3.at_ < _; omega) (by omega)
  have R4 := R3.trans (Reach.step F3 (by omega) e4 (by show t3.at_ < (I : Int) + 4; omega))
  have c4 : cnt (addR 18 ((I : Int) + 4) { t3 with text := (I : Int) }).l = 0 ∧ (addR 18 ((I : Int) + 4) { t3 with text := (I : Int) }).l.length ≤ 5 := by
    refine ⟨?_, by show (t3.l ++ [_]).length ≤ 5; simp; omega⟩
    show cnt (t3.l ++ [_]) = 0
    rw [cnt_app, c3.1]; rfl
  have g4 : (addR 18 ((I : Int) + 4) { t3 with text := (I : Int) }).at_ = I + 4 ∧ (addR 18 ((I : Int) + 4) { t3 with text := (I : Int) }).text = I ∧ (addR 18 ((I : Int) + 4) { t3 with text := (I : Int) }).op = 0 := ⟨rfl, rfl, o3⟩
  exact ⟨_, R4, F4, g4.1, g4.2.1, g4.2.2, c4.1, c4.2, hbr⟩
set_option maxHeartbeats 1000000 in
theorem texts_stop (b : List Int) (I : Nat) (hI : I < 5) (Q : Int) (hQ : 0 ≤ Q) (hbl : (b.length : Int) = Q + I + 3) (hP : ∀ j : Nat, j < I + 3 → rd b (Q + j) = if j < I then 32 else if j = I then 101 else if j = I + 1 then 110 else 100) :
    rd b Q ≠ 45 ∧ rd b Q ≠ 46 ∧ blanks b Q < line b Q ∧ spaces b Q - Q ≤ (I : Int) := by
  have nat_of : ∀ (a : Int) (j : Int), a ≤ j → ∃ q : Nat, j = a + q := fun a j h => ⟨(j - a).toNat, by omega⟩
  have hp0 := hP 0 (by omega)
  rw [Int.natCast_zero, Int.add_zero] at hp0
  have hI1 := hP I (by omega)
  rw [if_neg (by omega), if_pos rfl] at hI1
  have hsp : ∀ j : Int, Q ≤ j → j < Q + I → rd b j = 32 := by
    intro j q1 q2
    obtain ⟨q, rfl⟩ := nat_of _ j q1
    rw [hP q (by omega), if_pos (by omega)]
  have hbk2 : blanks b (Q) = Q + I := by
    refine upto_run (by omega) (.inr (by rw [hI1]; decide)) (by omega) (fun j q1 q2 => ?_)
    rw [hsp j q1 q2]; rfl
  have hsp2 : spaces b (Q) = Q + I := by
    refine upto_run (by omega) (.inr (by rw [hI1]; decide)) (by omega) (fun j q1 q2 => ?_)
    rw [hsp j q1 q2]; rfl
  have hln : line b (Q) = (b.length : Int) := by
    refine upto_run (by omega) (.inl rfl) (by omega) (fun j q1 q2 => ?_)
    obtain ⟨q, rfl⟩ := nat_of _ j q1
    have e := hP q (by omega)
    have : brk b (Q + q) = 0 := by
      refine brk_none ?_ ?_ <;> rw [e] <;> (repeat' split) <;> decide
    simp [this]
  refine ⟨?_, ?_, by rw [hbk2, hln]; omega, by rw [hsp2]; omega⟩ <;> rw [hp0] <;> (repeat' split) <;> decide
set_option maxHeartbeats 1000000 in
theorem texts_tail (b : List Int) (hB : Byt b) (I : Nat) (hI : I < 5) (Q : Int) (hQ : 0 ≤ Q) (hbl : (b.length : Int) = Q + I + 3) (hP : ∀ j : Nat, j < I + 3 → rd b (Q + j) = if j < I then 32 else if j = I then 101 else if j = I + 1 then 110 else 100)
    (t5 : RSt) (F5 : Fine b t5) (a5 : t5.at_ = Q) (w5 : t5.row = Q) (o5 : t5.op = 0) (l5 : t5.l.length ≤ 16) :
    ∃ M : List S32, EndsR b t5 (M ++ [⟨15, Q + I, Q + I + 3⟩]) ∧ cnt M = cnt t5.l ∧ M.length ≤ 17 := by
  have nat_of : ∀ (a : Int) (j : Int), a ≤ j → ∃ q : Nat, j = a + q := fun a j h => ⟨(j - a).toNat, by omega⟩
  -- the last row's indent
  have h101 := hP I (by omega)
  rw [if_neg (by omega), if_pos rfl] at h101
  have S6 : ∃ t6 : RSt, Reach b t5 t6 ∧ Fine b t6 ∧ t6.at_ = Q + I ∧ t6.op = 0 ∧ cnt t6.l = cnt t5.l ∧ t6.l.length ≤ 17 := by
    by_cases h0 : I = 0
    · exact ⟨t5, Reach.refl _ _, F5, by omega, o5, rfl, by omega⟩
    · have hs : spaces b (Q) = Q + I := by
        refine upto_run (by omega) (.inr (by rw [h101]; decide)) (by omega) (fun j q1 q2 => ?_)
        obtain ⟨q, rfl⟩ := nat_of _ j q1
        rw [hP q (by omega), if_pos (by omega)]
        rfl
      have h00 := hP 0 (by omega)
      rw [if_pos (by omega), Int.natCast_zero, Int.add_zero] at h00
      have e := step_indent (b := b) (r := t5) (by omega) (by omega) (by rw [a5]; exact h00)
      rw [a5, hs] at e
      have hf := F5.add 2 (e := Q + I) (by omega) (by omega)
      refine ⟨_, Reach.step F5 (by omega) e (by show t5.at_ < Q + I; omega), hf, rfl, o5, ?_, by show (t5.l ++ [_]).length ≤ 17; simp; omega⟩
      show cnt (t5.l ++ [_]) = _
      rw [cnt_app]
      rfl
  obtain ⟨t6, R6, F6, a6, o6, c6, l6⟩ := S6
  -- end
  have hE : ∀ j : Int, Q + I ≤ j → j < Q + I + 3 → rd b j = 101 ∨ rd b j = 110 ∨ rd b j = 100 := by
    intro j q1 q2
    obtain ⟨q, rfl⟩ := nat_of Q j (by omega)
    rw [hP q (by omega), if_neg (by omega)]
    split
    · exact .inl rfl
    · split
      · exact .inr (.inl rfl)
      · exact .inr (.inr rfl)
  have hpl : plainR b 0 (Q + I) = Q + I + 3 := by
    refine plain_to hB (by omega) (by omega) (by omega) (fun j q1 q2 => by have := hE j q1 q2; omega) (fun j q1 q2 => ?_) (.inl (by omega)) (.inr ?_)
    · have := hE j (by omega) q2
      exact plStop_no hB (by omega) (by omega) (by omega) (by omega) (by omega) (by omega) (by omega) (.inl (by omega))
    · have := hE (Q + I + 3 - 1) (by omega) (by omega)
      rw [Bool.eq_false_iff]
      simp only [Sc.blank, ne_eq, Bool.or_eq_true, beq_iff_eq]
      omega
  have e7 : stepR b t6 = addR 15 (Q + I + 3) t6 := by
    rw [step_plain hB (by omega) (by omega) (by rw [a6, h101]; decide), a6, o6, hpl]
  have F7 := F6.add 15 (e := Q + I + 3) (by omega) (by omega)
  have R7 := R6.trans (Reach.step F6 (by omega) e7 (by show t6.at_ < Q + I + 3; omega))
  refine ⟨t6.l, R7 _ ?_, c6, l6⟩
  have := EndsR.stop F7 (by show ¬ Q + I + 3 < _; omega)
  rw [show (addR 15 (Q + I + 3) t6).l = t6.l ++ [⟨15, Q + I, Q + I + 3⟩] by show t6.l ++ [_] = _; rw [a6]] at this
  exact this
set_option maxHeartbeats 1000000 in
theorem texts_toks (I : Nat) (hI : I < 5) (ks : List Nat) (hk : ∀ k ∈ ks, k < 6) (hks : ks.length ≤ 10) :
    ∃ L, toksO ((sp I ++ [107, 58, 32, 124, 10]) ++ (rowsOf I ks ++ (sp I ++ [101, 110, 100]))) = some L ∧ cnt L = ks.length ∧ L.length ≤ 30 ∧ ∃ M x, L = M ++ [x] ∧ x.f0 = 15 ∧ x.f2 = (I : Int) + 5 + (rowsOf I ks).length + I + 3 := by
  have hlu : ((sp I ++ [107, 58, 32, 124, 10] : List Int).length : Int) = (I : Int) + 5 := by simp [sp]
  have hlp : ((sp I ++ [101, 110, 100] : List Int).length : Int) = (I : Int) + 3 := by simp [sp]
  have hB : Byt ((sp I ++ [107, 58, 32, 124, 10]) ++ (rowsOf I ks ++ (sp I ++ [101, 110, 100]))) := (bytB_byt (head_byt I hI).1).append ((rows_byt I hI ks hk).append (bytB_byt (head_byt I hI).2))
  have hrl := rows_len I hI ks hk
  have hH : ∀ j : Nat, j < I + 5 → rd ((sp I ++ [107, 58, 32, 124, 10]) ++ (rowsOf I ks ++ (sp I ++ [101, 110, 100]))) (j : Int) = if j < I then 32 else if j = I then 107 else if j = I + 1 then 58 else if j = I + 2 then 32 else if j = I + 3 then 124 else 10 := fun j hj => by
    rw [rd_app_l (by omega) (by omega)]
    exact head_facts I hI j hj
  have hP : ∀ j : Nat, j < I + 3 → rd ((sp I ++ [107, 58, 32, 124, 10]) ++ (rowsOf I ks ++ (sp I ++ [101, 110, 100]))) ((I : Int) + 5 + (rowsOf I ks).length + j) = if j < I then 32 else if j = I then 101 else if j = I + 1 then 110 else 100 := fun j hj => by
    rw [← List.append_assoc, rd_app_r' (n := (I : Int) + 5 + (rowsOf I ks).length) (by rw [List.length_append]; omega) (by omega), show (I : Int) + 5 + (rowsOf I ks).length + j - ((I : Int) + 5 + (rowsOf I ks).length) = j by omega]
    exact post_facts I hI j hj
  have hbl : ((((sp I ++ [107, 58, 32, 124, 10]) ++ (rowsOf I ks ++ (sp I ++ [101, 110, 100]))) : List Int).length : Int) = (I : Int) + 5 + (rowsOf I ks).length + I + 3 := by
    simp [sp]; omega
  generalize hb : (sp I ++ [107, 58, 32, 124, 10]) ++ (rowsOf I ks ++ (sp I ++ [101, 110, 100])) = b at *
  generalize hR : (rowsOf I ks).length = R at *
  obtain ⟨t4, R4, F4, a4, x4, o4, c4, l4, hbr⟩ := texts_head b hB I hI (by omega) hH
  -- the break and the rows
  have F5a := ((F4.add 1 (e := (I : Int) + 5) (by omega) (by omega)).next).text (t := -2) (by decide) (by show (-2 : Int) ≤ (I : Int) + 5; omega)
  have hst : ∀ p : Int, 0 ≤ p → (b.length : Int) = p + ((sp I ++ [101, 110, 100] : List Int).length : Int) → rd b p ≠ 45 ∧ rd b p ≠ 46 ∧ blanks b p < line b p ∧ spaces b p - p ≤ (I : Int) := by
    intro p hp0 hp1
    have hp : p = (I : Int) + 5 + R := by omega
    subst hp
    exact texts_stop b I hI _ hp0 hbl hP
  obtain ⟨tl, q1, q2, q3, q4⟩ := rows_go b (sp I ++ [101, 110, 100]) I hI hst (by simp) ks (sp I ++ [107, 58, 32, 124, 10]) ((b.length : Int) - ((I : Int) + 5)).toNat { nextR (addR 1 ((I : Int) + 5) t4) with text := -2 } hk hb.symm (by show (I : Int) + 5 = _; omega) rfl rfl rfl rfl F5a (by show (b.length : Int) - ((I : Int) + 5) ≤ _; omega)
  rw [hlu, hR] at q3 q4
  have e5 : stepR b t4 = after t4 ((I : Int) + 5 + R) ((addR 1 ((I : Int) + 5) t4).l ++ tl) := by
    rw [step_break (by omega) (by rw [a4, hbr]; decide)]
    unfold breakR
    rw [if_pos (by omega), a4, hbr, show (I : Int) + 4 + 1 = (I : Int) + 5 by omega]
    unfold textsR
    show rowsR b t4.text _ _ = _
    rw [x4]
    exact q3
  have F5 : Fine b (after t4 ((I : Int) + 5 + R) ((addR 1 ((I : Int) + 5) t4).l ++ tl)) := q4
  have R5 := R4.trans (Reach.step F4 (by omega) e5 (by show t4.at_ < (I : Int) + 5 + R; omega))
  have c5 : cnt (after t4 ((I : Int) + 5 + R) ((addR 1 ((I : Int) + 5) t4).l ++ tl)).l = ks.length ∧ (after t4 ((I : Int) + 5 + R) ((addR 1 ((I : Int) + 5) t4).l ++ tl)).l.length ≤ 16 := by
    refine ⟨?_, by show ((t4.l ++ [_]) ++ tl).length ≤ 16; simp; omega⟩
    show cnt ((t4.l ++ [_]) ++ tl) = _
    rw [cnt_app, cnt_app, c4, cnt_all tl q2, q1]
    show 0 + 0 + ks.length = ks.length
    omega
  obtain ⟨M, m1, m2, m3⟩ := texts_tail b hB I hI ((I : Int) + 5 + R) (by omega) hbl hP _ F5 rfl rfl o4 c5.2
  refine ⟨_, (toks_by hB (by omega) (R5 _ m1)).1, ?_, ?_, M, _, rfl, rfl, rfl⟩
  · rw [cnt_app, m2, c5.1]
    rfl
  · simp
    omega
end Go.Proofs.Ythoogadfhopkfaa.Same
