/- Rows of few signs are read row by row: the whole text's tokens. No program in it. -/
import Derived.Test.YthoogadfhopkfaaY2
namespace Go.Proofs.Ythoogadfhopkfaa.Same
open Go.RowKit Go.Proofs.Ythoogadfhopkfaa.Q Go.Proofs.YthoogadfhopkfaaW.PrintWords Go.Proofs.YthoogadfhopkfaaW.PrintLast Go.Proofs.YthoogadfhopkfaaW.PrintMore Go.Proofs.Ythoogadfhopkfaa.Sc Go.Proofs.Ythoogadfhopkfaa.Rf Go.Proofs.Ythoogadfhopkfaa.Pure
set_option linter.unusedVariables false
set_option linter.unusedSimpArgs false
def Qt (l : List Int) : Prop := ∀ x ∈ l, qb x
theorem Qt.byt {l : List Int} (h : Qt l) : Byt l := fun x hx => by have := h x hx; unfold qb at this; omega
theorem Qt.app {l m : List Int} (h : Qt l) (k : Qt m) : Qt (l ++ m) := fun x hx => (List.mem_append.mp hx).elim (h x) (k x)
theorem line_ten {v : List Int} (hq : Qt v) {i : Int} (h0 : 0 ≤ i) (h : i ≤ (v.length : Int)) : line v i = (v.length : Int) ∨ (line v i < (v.length : Int) ∧ rd v (line v i) = 10) := by
  have hl := line_in h
  by_cases c : line v i < (v.length : Int)
  · have hb := line_byte c
    have := hq _ (rd_mem (w := v) (by omega) c)
    unfold qb at this
    exact .inr ⟨c, by omega⟩
  · exact .inl (by omega)
theorem row_ok {v : List Int} (hq : Qt v) {i : Int} (h0 : 0 ≤ i) (h : i ≤ (v.length : Int)) : ∀ j, i ≤ j → j < line v i → qb (rd v j) ∧ rd v j ≠ 10 := by
  intro j g1 g2
  have hl := line_in h
  have hb := line_clear g1 g2
  refine ⟨hq _ (rd_mem (by omega) (by omega)), fun h10 => ?_⟩
  rw [brk_ten (by omega) h10] at hb
  exact absurd hb (by decide)
theorem row_shift (u : List Int) {v : List Int} (hq : Qt v) {i : Int} (h0 : 0 ≤ i) (h : i ≤ (v.length : Int)) : Row v (u ++ v) (u.length : Int) i (line v i) := by
  have hl := line_in h
  have he : ∀ j : Int, 0 ≤ j → rd (u ++ v) (j + (u.length : Int)) = rd v j := fun j g => by rw [Int.add_comm, rd_app_r g]
  refine ⟨h0, by omega, hl.1, hl.2, by simp; omega, fun j g1 g2 => he j (by omega), row_ok hq h0 h, (line_ten hq h0 h).imp_right And.right, ?_⟩
  rcases line_ten hq h0 h with e | e
  · exact .inl (by rw [e]; simp; omega)
  · exact .inr (by rw [he _ (by omega)]; exact e.2)
theorem row_front {u : List Int} (v : List Int) (hq : Qt u) (hne : 0 < u.length) (hlast : rd u ((u.length : Int) - 1) = 10) {i : Int} (h0 : 0 ≤ i) (h : i < (u.length : Int)) : Row u (u ++ v) 0 i (line u i) ∧ line u i < (u.length : Int) ∧ rd u (line u i) = 10 := by
  have hl := line_in (b := u) (i := i) (by omega)
  have ht : line u i < (u.length : Int) ∧ rd u (line u i) = 10 := by
    rcases line_ten hq h0 (by omega) with e | e
    · exfalso
      have := line_clear (b := u) (i := i) (x := (u.length : Int) - 1) (by omega) (by omega)
      rw [brk_ten (by omega) hlast] at this
      exact absurd this (by decide)
    · exact e
  have he : ∀ j : Int, 0 ≤ j → j < (u.length : Int) → rd (u ++ v) (j + 0) = rd u j := fun j g1 g2 => by rw [Int.add_zero, rd_app_l g1 g2]
  exact ⟨⟨h0, Int.le_refl _, hl.1, hl.2, by simp; omega, fun j g1 g2 => he j (by omega) (by omega), row_ok hq h0 (by omega), .inr ht.2, .inr (by rw [he _ (by omega) ht.1]; exact ht.2)⟩, ht⟩
structure Good (b : List Int) (s : RSt) : Prop where
  f : Fine b s
  o : s.op = 0
  t : s.text = -2
  w : ∀ x ∈ s.l, 0 ≤ x.f1 ∧ x.f1 ≤ (b.length : Int) ∧ 0 ≤ x.f2 ∧ x.f2 ≤ (b.length : Int)
theorem good0 (b : List Int) : Good b rs0 := ⟨fine0 b, rfl, rfl, fun x hx => by cases hx⟩
theorem Good.add {b : List Int} {s : RSt} (h : Good b s) (k : Int) {e : Int} (h1 : s.at_ < e) (h2 : e ≤ (b.length : Int)) : Good b (addR k e s) := by
  have := h.f.r0; have := h.f.r1
  refine ⟨h.f.add k h1 h2, h.o, h.t, fun x hx => ?_⟩
  rcases List.mem_append.mp hx with g | g
  · exact h.w x g
  · rw [List.mem_singleton.mp g]
    exact ⟨by show 0 ≤ s.at_; omega, by show s.at_ ≤ _; omega, by show 0 ≤ e; omega, h2⟩
theorem Good.next {b : List Int} {s : RSt} (h : Good b s) : Good b (nextR s) := ⟨h.f.next, h.o, h.t, h.w⟩
theorem fine_mv {b1 b2 : List Int} {s : RSt} (h : Fine b1 s) {d : Int} {pre : List S32} (hd : 0 ≤ d) (hp : (pre.length : Int) ≤ d) (hl : s.at_ + d ≤ (b2.length : Int)) (ho : s.op = 0) : Fine b2 (mv d pre s) := by
  have := h.r0; have := h.r1; have := h.n; have := h.b0; have := h.b1; have := h.t0; have := h.t1
  refine ⟨?_, ?_, hl, ?_, ?_, ?_, h.b0, ?_, h.t0, ?_, ?_⟩ <;> simp only [mv, List.length_append, List.length_map]
  · omega
  · omega
  · omega
  · omega
  · omega
  · omega
  · omega
  · rcases h.c with c | c
    · exact .inl (by omega)
    · exact .inr (by omega)
set_option maxHeartbeats 1000000 in
/-- One step, here and d further on. -/
theorem step_mv {b1 b2 : List Int} {d hi : Int} {s : RSt} (pre : List S32) (R : Row b1 b2 d s.at_ hi) (hlt : s.at_ < (b1.length : Int)) (hg : Good b1 s) (hx : hi < (b1.length : Int) → rd b1 hi = 10 ∧ rd b2 (hi + d) = 10 ∧ hi + d < (b2.length : Int)) :
    stepR b2 (mv d pre s) = mv d pre (stepR b1 s) ∧ s.at_ < (stepR b1 s).at_ ∧ Good b1 (stepR b1 s) ∧ ((stepR b1 s).at_ ≤ hi ∨ (hi < (b1.length : Int) ∧ stepR b1 s = ⟨hi + 1, hi + 1, 0, -1, true, -2, (stepR b1 s).l⟩)) := by
  have hh1 := R.h1
  have hh2 := R.h2
  have hi0 := R.i0
  have hd0 := R.d0
  have hih := R.ih
  by_cases c : s.at_ = hi
  · obtain ⟨x1, x2, x3⟩ := hx (by omega)
    have b1k : brk b1 s.at_ = 1 := by rw [c]; exact brk_ten (by omega) x1
    have b2k : brk b2 (s.at_ + d) = 1 := by rw [c]; exact brk_ten x3 x2
    have e1 : stepR b1 s = nextR (addR 1 (s.at_ + 1) s) := by
      rw [step_break hi0 (by omega)]
      unfold breakR
      rw [if_neg (by have := hg.t; omega), b1k]
    have e2 : stepR b2 (mv d pre s) = nextR (addR 1 (s.at_ + d + 1) (mv d pre s)) := by
      have hp1 : 0 ≤ (mv d pre s).at_ := by show 0 ≤ s.at_ + d; omega
      have hp2 : 0 < brk b2 (mv d pre s).at_ := by show 0 < brk b2 (s.at_ + d); omega
      have hp3 : ¬ (mv d pre s).text ≥ -1 := by show ¬ s.text ≥ -1; have := hg.t; omega
      have hp4 : (mv d pre s).at_ + brk b2 (mv d pre s).at_ = s.at_ + d + 1 := by show s.at_ + d + brk b2 (s.at_ + d) = _; rw [b2k]
      rw [step_break (b := b2) (r := mv d pre s) hp1 hp2]
      unfold breakR
      rw [if_neg hp3, hp4]
    rw [e2, e1, show s.at_ + d + 1 = s.at_ + 1 + d by omega, mv_add, mv_next]
    refine ⟨rfl, by show s.at_ < s.at_ + 1; omega, (hg.add 1 (by omega) (by omega)).next, .inr ⟨by omega, ?_⟩⟩
    have ho := hg.o
    have ht := hg.t
    unfold nextR addR
    simp only [RSt.mk.injEq]
    exact ⟨by omega, by omega, ho, trivial, trivial, ht, trivial⟩
  · have hl : s.at_ < hi := by omega
    have hk := R.kE pre hl hg.f.c
    have hb := R.brk0 (Int.le_refl _) hl
    have er := R.eq s.at_ (Int.le_refl _) hl
    have hq := (R.ok s.at_ (Int.le_refl _) hl).1
    have e1 := step_kE (b := b1) (s := s) hi0 hlt hg.o hq hb.1
    have e2 := step_kE (b := b2) (s := mv d pre s) (show 0 ≤ s.at_ + d by omega) (show s.at_ + d < _ by omega) hg.o (by show qb (rd b2 (s.at_ + d)); rw [er]; exact hq) hb.2
    rw [hk.1] at e2
    simp only at e2
    rw [mv_add] at e2
    rw [e2, e1]
    exact ⟨rfl, hk.2.1, hg.add _ hk.2.1 (by omega), .inl hk.2.2⟩
theorem EndsR.one {b : List Int} {s : RSt} {L M : List S32} (h : EndsR b s L) (k : EndsR b s M) : L = M := by
  obtain ⟨t, h1, h2⟩ := h (((b.length : Int) - s.at_).toNat + 1) (by omega)
  obtain ⟨t', h3, h4⟩ := k (((b.length : Int) - s.at_).toNat + 1) (by omega)
  rw [h1] at h3
  obtain rfl := Option.some.inj h3
  exact h2.symm.trans h4
theorem shift_run (u : List Int) {v : List Int} (hq : Qt v) (pre : List S32) (hp : pre.length ≤ u.length) : ∀ (k : Nat) (s : RSt), (v.length : Int) - s.at_ ≤ (k : Int) → Good v s →
    ∃ L, EndsR v s L ∧ EndsR (u ++ v) (mv (u.length : Int) pre s) (pre ++ L.map (shT (u.length : Int))) ∧ ∀ x ∈ L, 0 ≤ x.f1 ∧ x.f1 ≤ (v.length : Int) ∧ 0 ≤ x.f2 ∧ x.f2 ≤ (v.length : Int) := by
  have hlen : ((u ++ v).length : Int) = (u.length : Int) + v.length := by simp
  intro k
  induction k with
  | zero =>
    intro s hk hg
    have ha := hg.f.a1
    exact ⟨s.l, EndsR.stop hg.f (by omega), EndsR.stop (fine_mv hg.f (by omega) (by omega) (by omega) hg.o) (by show ¬ s.at_ + (u.length : Int) < _; omega), hg.w⟩
  | succ k ih =>
    intro s hk hg
    have ha := hg.f.a1
    have h0 : 0 ≤ s.at_ := by have := hg.f.r0; have := hg.f.r1; omega
    by_cases c : s.at_ < (v.length : Int)
    · have hR := row_shift u hq h0 ha
      have hx : line v s.at_ < (v.length : Int) → rd v (line v s.at_) = 10 ∧ rd (u ++ v) (line v s.at_ + (u.length : Int)) = 10 ∧ line v s.at_ + (u.length : Int) < ((u ++ v).length : Int) := by
        intro g
        have e := (line_ten hq h0 ha).resolve_left (by omega)
        have hl := line_in ha
        exact ⟨e.2, by rw [Int.add_comm, rd_app_r (by omega)]; exact e.2, by omega⟩
      obtain ⟨e1, e2, e3, e4⟩ := step_mv pre hR c hg hx
      obtain ⟨L, g1, g2, g3⟩ := ih (stepR v s) (by omega) e3
      refine ⟨L, EndsR.via hg.f c rfl e2 g1, EndsR.via (fine_mv hg.f (by omega) (by omega) (by omega) hg.o) (by show s.at_ + (u.length : Int) < _; omega) e1 (by show s.at_ + (u.length : Int) < (stepR v s).at_ + (u.length : Int); omega) g2, g3⟩
    · exact ⟨s.l, EndsR.stop hg.f c, EndsR.stop (fine_mv hg.f (by omega) (by omega) (by omega) hg.o) (by show ¬ s.at_ + (u.length : Int) < _; omega), hg.w⟩
theorem mv_zero (s : RSt) : mv 0 [] s = s := by
  have : (fun t : S32 => shT 0 t) = id := by
    funext t
    simp only [shT, Int.add_zero, id]
  cases s
  simp only [mv, Int.add_zero, List.nil_append]
  rw [show shT 0 = id from this, List.map_id]
def atRow (e : Int) (l : List S32) : RSt := ⟨e, e, 0, -1, true, -2, l⟩
theorem front_run {u : List Int} (v : List Int) (hq : Qt u) (hne : 0 < u.length) (hlast : rd u ((u.length : Int) - 1) = 10) : ∀ (k : Nat) (s : RSt), (u.length : Int) - s.at_ ≤ (k : Int) → Good u s → (s.at_ < (u.length : Int) ∨ s = atRow (u.length : Int) s.l) →
    ∃ P, EndsR u s P ∧ P.length ≤ u.length ∧ ∀ L, EndsR (u ++ v) (atRow (u.length : Int) P) L → EndsR (u ++ v) s L := by
  have hlen : ((u ++ v).length : Int) = (u.length : Int) + v.length := by simp
  have fin : ∀ s : RSt, Good u s → s = atRow (u.length : Int) s.l → ∃ P, EndsR u s P ∧ P.length ≤ u.length ∧ ∀ L, EndsR (u ++ v) (atRow (u.length : Int) P) L → EndsR (u ++ v) s L := by
    intro s hg hs
    have ha : s.at_ = (u.length : Int) := by rw [hs]; rfl
    refine ⟨s.l, EndsR.stop hg.f (by omega), by have := hg.f.n; omega, fun L h => by rw [← hs] at h; exact h⟩
  intro k
  induction k with
  | zero =>
    intro s hk hg ha
    exact fin s hg (ha.resolve_left (by omega))
  | succ k ih =>
    intro s hk hg ha
    have h0 : 0 ≤ s.at_ := by have := hg.f.r0; have := hg.f.r1; omega
    by_cases c : s.at_ < (u.length : Int)
    · obtain ⟨hR, hl1, hl2⟩ := row_front v hq hne hlast h0 c
      have hln := line_in (b := u) (i := s.at_) (by omega)
      obtain ⟨e1, e2, e3, e4⟩ := step_mv [] hR c hg (fun _ => ⟨hl2, by rw [Int.add_zero, rd_app_l (by omega) hl1]; exact hl2, by omega⟩)
      rw [mv_zero, mv_zero] at e1
      have hnext : (stepR u s).at_ < (u.length : Int) ∨ stepR u s = atRow (u.length : Int) (stepR u s).l := by
        rcases e4 with g | ⟨g1, g2⟩
        · exact .inl (by omega)
        · by_cases c2 : line u s.at_ + 1 = (u.length : Int)
          · right
            rw [c2] at g2
            exact g2
          · left
            rw [g2]
            show line u s.at_ + 1 < _
            omega
      obtain ⟨P, p1, p2, p3⟩ := ih (stepR u s) (by omega) e3 hnext
      refine ⟨P, EndsR.via hg.f c rfl e2 p1, p2, fun L h => EndsR.via ?_ (by omega) e1 e2 (p3 L h)⟩
      have := fine_mv (b2 := u ++ v) (d := 0) (pre := []) hg.f (Int.le_refl _) (by simp) (by omega) hg.o
      rw [mv_zero] at this
      exact this
    · exact fin s hg (ha.resolve_left c)
/-- A text that ends with a break, and one behind it: the tokens of both. -/
theorem both_toks {u v : List Int} (hu : Qt u) (hv : Qt v) (hne : 0 < u.length) (hlast : rd u ((u.length : Int) - 1) = 10) (hl : u.length + v.length ≤ 16384) :
    ∃ P Q, toksO u = some P ∧ toksO v = some Q ∧ toksO (u ++ v) = some (P ++ Q.map (shT (u.length : Int))) ∧ P.length ≤ u.length ∧ Q.length ≤ v.length ∧ ∀ x ∈ Q, 0 ≤ x.f1 ∧ x.f1 ≤ (v.length : Int) ∧ 0 ≤ x.f2 ∧ x.f2 ≤ (v.length : Int) := by
  have hlen : ((u ++ v).length : Int) = (u.length : Int) + v.length := by simp
  obtain ⟨P, p1, p2, p3⟩ := front_run v hu hne hlast u.length rs0 (by show (u.length : Int) - 0 ≤ _; omega) (good0 u) (.inl (by show (0 : Int) < _; omega))
  obtain ⟨Q, q1, q2, q3⟩ := shift_run u hv P p2 v.length rs0 (by show (v.length : Int) - 0 ≤ _; omega) (good0 v)
  have hm : mv (u.length : Int) P rs0 = atRow (u.length : Int) P := by
    simp [mv, atRow, rs0]
  rw [hm] at q2
  obtain ⟨M, m1, m2, m3⟩ := toks_same v hv.byt
  have hQ := (toks_by hv.byt (by omega) q1).1
  have hMQ : M = Q := by rw [hQ] at m1; exact (Option.some.inj m1).symm
  exact ⟨P, Q, (toks_by hu.byt (by omega) p1).1, hQ, (toks_by (hu.app hv).byt (by omega) (p3 _ q2)).1, p2, by rw [← hMQ]; omega, q3⟩
end Go.Proofs.Ythoogadfhopkfaa.Same
