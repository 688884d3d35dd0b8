/- ResolveFloats: digits, a point, digits, and a power, of any signs, are a float's. For every input. -/
import Derived.Test.YtpigemgiegbblaaR6
import Derived.Test.YtpigemgiegbblaaQLawResolveFloats
namespace Go.Proofs.Ytpigemgiegbblaa.Pure
open Go.RowKit Go.Proofs.Ytpigemgiegbblaa.Q Go.Proofs.YtpigemgiegbblaaW.PrintWords Go.Proofs.YtpigemgiegbblaaW.PrintLast
set_option linter.unusedVariables false
set_option linter.unusedSimpArgs false
def Dig (l : List Int) : Prop := ∀ c ∈ l, 48 ≤ c ∧ c ≤ 57
theorem dig_of (l : List Int) (h : Digs 10 l) : Dig l := by
  intro c hc
  obtain ⟨h1, h2⟩ := h c hc
  rcases h1 with h1 | h1
  · exact h1
  · unfold hexd at h2
    rw [if_neg (by omega), if_pos (by omega)] at h2
    omega
theorem dgs_app (A r : List Int) (h : Dig A) : dgs (A ++ r) = A.length + dgs r := by
  induction A with
  | nil => simp
  | cons c A ih =>
    have hc := h c List.mem_cons_self
    rw [List.cons_append, dgs_cons, if_pos hc, ih (fun x hx => h x (List.mem_cons_of_mem _ hx)), List.length_cons]
    omega
theorem dgs_all (A : List Int) (h : Dig A) : dgs A = A.length := by
  have := dgs_app A [] h
  rw [List.append_nil] at this
  rw [this]
  rfl
theorem dgs_stop (c : Int) (r : List Int) (h : ¬ (48 ≤ c ∧ c ≤ 57)) : dgs (c :: r) = 0 := by rw [dgs_cons, if_neg h]
/-- A sign that is no digit of ten: no number. -/
theorem numr_bad (T : Int) (c : Int) (hc : hexd c < 0 ∨ hexd c ≥ 10) (r : List Int) (A : List Int) : ∀ n, numr 10 T (A ++ c :: r) n = -1 := by
  induction A with
  | nil => intro n; unfold numr; simp only [List.nil_append]; rw [if_pos (by omega)]
  | cons a A ih =>
    intro n
    rw [List.cons_append]
    unfold numr
    split
    · rfl
    · exact ih _
/-- The signs ahead. -/
def Sg (S : List Int) : Prop := S = [] ∨ S = [43] ∨ S = [45]
/-- Behind a sign that may stand ahead: what decides. -/
theorem kd_shape (S u : List Int) (c : Int) (r : List Int) (hS : Sg S) (hu : u = c :: r) (hc : c = 46 ∨ c = 120 ∨ (48 ≤ c ∧ c ≤ 57)) (hb : ∀ n, numr 10 9223372036854775808 u n = -1)
    (h8 : u.take 2 ≠ [48, 111]) (h16 : u.take 2 ≠ [48, 120]) (hn : u ∉ nanL) (hi : u ∉ infL) : kd (S ++ u) = if body u = true then 4 else 5 := by
  have hnum : ∀ b, num b 10 u = (0, false) := by intro b; unfold num; rw [if_pos (by rw [hb]; exact .inl (by decide))]
  have hsg : (sgn (S ++ u)).1 = u := by
    subst hu
    rcases hS with rfl | rfl | rfl
    · rw [List.nil_append, sgn_cons, if_neg (by omega), if_neg (by omega)]
    · rw [List.singleton_append, sgn_cons, if_neg (by decide), if_pos rfl]
    · rw [List.singleton_append, sgn_cons, if_pos rfl]
  have hint : (intS (S ++ u)).2 = false := by
    unfold intS
    have g1 : (S ++ u).take 2 ≠ [48, 111] := by rcases hS with rfl | rfl | rfl <;> simp [h8]
    have g2 : (S ++ u).take 2 ≠ [48, 120] := by rcases hS with rfl | rfl | rfl <;> simp [h16]
    rw [if_neg g1, if_neg g2, hsg, hnum]
  have hnul : S ++ u ∉ nulL := by
    subst hu
    rcases hS with rfl | rfl | rfl <;> simp [nulL] <;> omega
  have hboo : S ++ u ∉ booL := by
    subst hu
    rcases hS with rfl | rfl | rfl <;> simp [booL] <;> omega
  have hnan : S ++ u ∉ nanL := by
    rcases hS with rfl | rfl | rfl
    · exact hn
    · simp [nanL]
    · simp [nanL]
  unfold kd
  rw [if_neg hnul, if_neg hboo, hint, if_neg (by decide)]
  unfold flt
  rw [hsg, decide_eq_false hnan, decide_eq_false hi, Bool.false_or, Bool.false_or]
theorem front_dig (A r : List Int) (x : Int) (hA : Dig A) (hne : A ≠ []) (hx : x ≠ 111 ∧ x ≠ 120) : ∃ c t, A ++ x :: r = c :: t ∧ (48 ≤ c ∧ c ≤ 57) ∧ (A ++ x :: r).take 2 ≠ [48, 111] ∧ (A ++ x :: r).take 2 ≠ [48, 120] := by
  cases A with
  | nil => exact absurd rfl hne
  | cons c A =>
    have hc := hA c List.mem_cons_self
    refine ⟨c, A ++ x :: r, rfl, hc, ?_, ?_⟩
    · cases A with
      | nil => intro e; simp at e; exact hx.1 e.2
      | cons d A =>
        have hd := hA d (List.mem_cons_of_mem _ List.mem_cons_self)
        intro e
        simp at e
        omega
    · cases A with
      | nil => intro e; simp at e; exact hx.2 e.2
      | cons d A =>
        have hd := hA d (List.mem_cons_of_mem _ List.mem_cons_self)
        intro e
        simp at e
        omega
theorem not_lists (c : Int) (t : List Int) (hc : 48 ≤ c ∧ c ≤ 57) : c :: t ∉ nanL ∧ c :: t ∉ infL := by
  constructor
  · simp [nanL]; omega
  · simp [infL]; omega
theorem hex_dot : hexd 46 < 0 ∨ hexd 46 ≥ 10 := by decide
/-- Digits, and a sign that is none behind. -/
theorem kd_dig (S A r : List Int) (x : Int) (hS : Sg S) (hA : Dig A) (hne : A ≠ []) (hx : x ≠ 111 ∧ x ≠ 120) (hh : hexd x < 0 ∨ hexd x ≥ 10) : kd (S ++ (A ++ x :: r)) = if body (A ++ x :: r) = true then 4 else 5 := by
  obtain ⟨c, t, e, hc, h8, h16⟩ := front_dig A r x hA hne hx
  obtain ⟨n1, n2⟩ := not_lists c t hc
  exact kd_shape S _ c t hS e (.inr (.inr hc)) (fun n => numr_bad _ x hh r A n) h8 h16 (by rw [e]; exact n1) (by rw [e]; exact n2)
/-- Digits, a point, digits, and what is behind. -/
theorem body_point (A B R : List Int) (hA : Dig A) (hB : Dig B) (hR : dgs R = 0) : body (A ++ 46 :: (B ++ R)) = (decide (0 < A.length + B.length) && expo R) := by
  have e1 : dgs (A ++ 46 :: (B ++ R)) = A.length := by rw [dgs_app A _ hA, dgs_stop 46 _ (by decide)]; rfl
  have e2 : dgs (B ++ R) = B.length := by rw [dgs_app B _ hB, hR]; rfl
  unfold body frac
  rw [e1, List.drop_left]
  simp only [List.head?_cons, if_true, List.tail_cons, e2, List.drop_left]
theorem body_power (A R : List Int) (c : Int) (hA : Dig A) (hc : ¬ (48 ≤ c ∧ c ≤ 57)) (h46 : c ≠ 46) : body (A ++ c :: R) = (decide (0 < A.length) && expo (c :: R)) := by
  have e1 : dgs (A ++ c :: R) = A.length := by rw [dgs_app A _ hA, dgs_stop c _ hc]; rfl
  unfold body frac
  rw [e1, List.drop_left]
  have : ¬ (some c = some 46) := by simpa using h46
  rw [List.head?_cons, if_neg this, Nat.add_zero]
def Ex (E : List Int) : Prop := E = [101] ∨ E = [69]
theorem expo_good (T C : List Int) (e : Int) (he : e = 101 ∨ e = 69) (hT : Sg T) (hC : Dig C) (hne : C ≠ []) : expo (e :: (T ++ C)) = true := by
  have hs : (sgn (T ++ C)).1 = C := by
    cases C with
    | nil => exact absurd rfl hne
    | cons c C =>
      have hc := hC c List.mem_cons_self
      rcases hT with rfl | rfl | rfl
      · rw [List.nil_append, sgn_cons, if_neg (by omega), if_neg (by omega)]
      · rw [List.singleton_append, sgn_cons, if_neg (by decide), if_pos rfl]
      · rw [List.singleton_append, sgn_cons, if_pos rfl]
  have hl : 0 < C.length := List.length_pos_iff.2 hne
  rw [expo_cons, hs, dgs_all C hC, decide_eq_true (by omega)]
theorem expo_sign (T : List Int) (e : Int) (hT : Sg T) : expo (e :: T) = false := by
  have hs : dgs (sgn T).1 = 0 := by rcases hT with rfl | rfl | rfl <;> rfl
  rw [expo_cons, hs, decide_eq_false (by omega)]
theorem hex_e (e : Int) (he : e = 101 ∨ e = 69) : (e ≠ 111 ∧ e ≠ 120) ∧ (hexd e < 0 ∨ hexd e ≥ 10) ∧ ¬ (48 ≤ e ∧ e ≤ 57) ∧ e ≠ 46 := by
  rcases he with rfl | rfl <;> decide
theorem two_signs (A : List Int) (y : Int) (b : Bool) (hs : sgn (y :: y :: 120 :: A) = (y :: 120 :: A, b)) (h1 : y :: y :: 120 :: A ∉ nulL) (h2 : y :: y :: 120 :: A ∉ booL) (h3 : y :: y :: 120 :: A ∉ nanL) (h4 : y :: 120 :: A ∉ infL)
    (h5 : (y :: y :: 120 :: A).take 2 ≠ [48, 111]) (h6 : (y :: y :: 120 :: A).take 2 ≠ [48, 120]) (hb : body (y :: 120 :: A) = false) : kd (y :: y :: 120 :: A) = 5 := by
  have hx : hexd 120 < 0 ∨ hexd 120 ≥ 10 := by decide
  have hi : num b 10 (y :: 120 :: A) = (0, false) := by unfold num; rw [if_pos (.inl (by rw [show y :: 120 :: A = [y] ++ 120 :: A from rfl, numr_bad _ 120 hx A [y]]; decide))]
  unfold kd
  rw [if_neg h1, if_neg h2]
  unfold intS flt
  rw [if_neg h5, if_neg h6, hs, hi, decide_eq_false h3, decide_eq_false h4, hb]
  rfl
section
variable (S T A B C : List Int) (e : Int) (hS : Sg S) (hT : Sg T) (he : e = 101 ∨ e = 69) (hA : Dig A) (hB : Dig B) (hC : Dig C) (hA0 : A ≠ []) (hB0 : B ≠ []) (hC0 : C ≠ [])
include hS hA hA0 hB in
theorem good1 : kd (S ++ A ++ [46] ++ B) = 4 := by
  have h := body_point A B [] hA hB rfl
  have hl := List.length_pos_iff.2 hA0
  rw [List.append_nil] at h
  have := kd_dig S A B 46 hS hA hA0 (by decide) hex_dot
  rw [h, decide_eq_true (by omega)] at this
  rw [show expo [] = true from rfl] at this
  simpa using this
include hS hB hB0 in
theorem good2 : kd (S ++ [46] ++ B) = 4 := by
  have h := body_point [] B [] (by intro c hc; cases hc) hB rfl
  have hl := List.length_pos_iff.2 hB0
  rw [List.append_nil, List.nil_append] at h
  have hnl : (46 :: B) ∉ nanL ∧ (46 :: B) ∉ infL := by
    cases B with
    | nil => exact absurd rfl hB0
    | cons b B =>
      have hb := hB b List.mem_cons_self
      constructor
      · simp [nanL]; omega
      · simp [infL]; omega
  have := kd_shape S (46 :: B) 46 B hS rfl (.inl rfl) (fun n => numr_bad _ 46 hex_dot B [] n) (by simp) (by simp) hnl.1 hnl.2
  rw [h, decide_eq_true (by simp only [List.length_nil]; omega)] at this
  rw [show expo [] = true from rfl] at this
  simpa using this
include hS hA hA0 in
theorem good3 : kd (S ++ A ++ [46]) = 4 := by
  have h := body_point A [] [] hA (by intro c hc; cases hc) rfl
  have hl := List.length_pos_iff.2 hA0
  rw [List.append_nil] at h
  have := kd_dig S A [] 46 hS hA hA0 (by decide) hex_dot
  rw [h, decide_eq_true (by simp only [List.length_nil]; omega)] at this
  rw [show expo [] = true from rfl] at this
  simpa using this
include hS hA hA0 he hT hC hC0 in
theorem good4 : kd (S ++ A ++ [e] ++ T ++ C) = 4 := by
  obtain ⟨e1, e2, e3, e4⟩ := hex_e e he
  have h := body_power A (T ++ C) e hA e3 e4
  have hl := List.length_pos_iff.2 hA0
  have := kd_dig S A (T ++ C) e hS hA hA0 e1 e2
  rw [h, decide_eq_true (by omega), expo_good T C e he hT hC hC0] at this
  simpa using this
include hS hA hA0 hB he hT hC hC0 in
theorem good5 : kd (S ++ A ++ [46] ++ B ++ [e] ++ T ++ C) = 4 := by
  obtain ⟨e1, e2, e3, e4⟩ := hex_e e he
  have h := body_point A B (e :: (T ++ C)) hA hB (dgs_stop e _ e3)
  have hl := List.length_pos_iff.2 hA0
  have := kd_dig S A (B ++ e :: (T ++ C)) 46 hS hA hA0 (by decide) hex_dot
  rw [h, decide_eq_true (by omega), expo_good T C e he hT hC hC0] at this
  simpa using this
include hS he in
theorem bad1 : kd (S ++ [46] ++ [e] ++ [49]) = 5 := by
  rcases hS with rfl | rfl | rfl <;> rcases he with rfl | rfl <;> decide +kernel
include hS hA hA0 he in
theorem bad2 : kd (S ++ A ++ [e]) = 5 := by
  obtain ⟨e1, e2, e3, e4⟩ := hex_e e he
  have h := body_power A [] e hA e3 e4
  have := kd_dig S A [] e hS hA hA0 e1 e2
  rw [h, expo_sign [] e (.inl rfl), Bool.and_false] at this
  simpa using this
include hS hA hA0 hB he hT in
theorem bad3 : kd (S ++ A ++ [46] ++ B ++ [e] ++ T) = 5 := by
  obtain ⟨e1, e2, e3, e4⟩ := hex_e e he
  have h := body_point A B (e :: T) hA hB (dgs_stop e _ e3)
  have := kd_dig S A (B ++ e :: T) 46 hS hA hA0 (by decide) hex_dot
  rw [h, expo_sign T e hT, Bool.and_false] at this
  simpa using this
include hS hA hA0 hB in
theorem bad4 : kd (S ++ A ++ [46] ++ B ++ [46]) = 5 := by
  have h := body_point A B [46] hA hB rfl
  have := kd_dig S A (B ++ [46]) 46 hS hA hA0 (by decide) hex_dot
  rw [h, show expo [46] = false from rfl, Bool.and_false] at this
  simpa using this
include hS in
theorem bad5 : kd (S ++ S ++ [120] ++ A) = 5 := by
  have hb0 : ∀ x : Int, ¬ (48 ≤ x ∧ x ≤ 57) → x ≠ 46 → ∀ r, body (x :: r) = false := by
    intro x h1 h2 r
    have := body_power [] r x (by intro c hc; cases hc) h1 h2
    rw [List.nil_append] at this
    rw [this]
    rfl
  have hx : hexd 120 < 0 ∨ hexd 120 ≥ 10 := by decide
  rcases hS with rfl | rfl | rfl
  · have := kd_shape [] (120 :: A) 120 A (.inl rfl) rfl (.inr (.inl rfl)) (fun n => numr_bad _ 120 hx A [] n) (by simp) (by simp) (by simp [nanL]) (by simp [infL])
    rw [hb0 120 (by decide) (by decide), if_neg (by decide)] at this
    simpa using this
  · exact two_signs A 43 false rfl (by simp [nulL]) (by simp [booL]) (by simp [nanL]) (by simp [infL]) (by simp) (by simp) (hb0 43 (by decide) (by decide) _)
  · exact two_signs A 45 true rfl (by simp [nulL]) (by simp [booL]) (by simp [nanL]) (by simp [infL]) (by simp) (by simp) (hb0 45 (by decide) (by decide) _)
include hA hA0 in
theorem bad6 : kd (A ++ [95] ++ B) = 5 := by
  have h := body_power A B 95 hA (by decide) (by decide)
  have := kd_dig [] A B 95 (.inl rfl) hA hA0 (by decide) (by decide)
  rw [h, show expo (95 :: B) = false by rw [expo_cons]; exact decide_eq_false (by omega), Bool.and_false] at this
  simpa using this
end

theorem float_round (x0 x1 x3 : Int) (x9 x10 x11 : ByteArray) (L : List ByteArray) (i : Nat) (hi : i < L.length) (hL : L.length ≤ 10) (k : Nat) (hk : 1200 < k) (hs : (rdOf ByteArray.empty L (i : Int)).size ≤ 1000) (h : kd (bs (rdOf ByteArray.empty L (i : Int))) = 4) :
    correctorlaw15_ResolveFloats.l0 (k + 1) x0 x1 x3 x9 x10 x11 L (i : Int) = correctorlaw15_ResolveFloats.l0 k x0 x1 x3 x9 x10 x11 L ((i + 1 : Nat) : Int) := by
  have hint : (bs (⟨#[33, 33, 105, 110, 116]⟩ : ByteArray)) = [33, 33, 105, 110, 116] := rfl
  have hflo : (bs (⟨#[33, 33, 102, 108, 111, 97, 116]⟩ : ByteArray)) = [33, 33, 102, 108, 111, 97, 116] := rfl
  rw [correctorlaw15_ResolveFloats.l0, if_pos (by omega), if_pos (by omega)]
  generalize rdOf ByteArray.empty L (i : Int) = s at *
  have t4 : tg [33, 33, 105, 110, 116] (bs s) true = if kd (bs s) = 3 then 3 else 5 := rfl
  have t5 : tg [33, 33, 102, 108, 111, 97, 116] (bs s) false = if kd (bs s) = 3 ∨ kd (bs s) = 4 then 4 else 5 := rfl
  rw [kind_eq s (by omega) k (by omega), Option.bind_some, if_pos h, tag_eq _ s _ (by omega) k (by omega), Option.bind_some, tag_eq _ s _ (by omega) k (by omega), Option.bind_some, hint, hflo, t4, t5, h, if_pos (show (4 : Int) = 3 ∨ (4 : Int) = 4 from .inr rfl), if_pos rfl, if_neg (show ¬ (4 : Int) = 3 by decide), if_pos rfl, w64 (by omega) (by omega), show (i : Int) + 1 = ((i + 1 : Nat) : Int) by omega]
theorem sg_size2 (s : ByteArray) (h : Sg (bs s)) : s.size ≤ 1 := by
  rw [← bs_len]
  rcases h with h | h | h <;> rw [h] <;> simp
theorem signs_sg (j : Int) (h0 : 0 ≤ j) (h1 : j < 3) : Sg (bs (rdOf ByteArray.empty [(⟨#[]⟩ : ByteArray), (⟨#[43]⟩ : ByteArray), (⟨#[45]⟩ : ByteArray)] j)) := by
  have : j = 0 ∨ j = 1 ∨ j = 2 := by omega
  rcases this with rfl | rfl | rfl
  · exact .inl rfl
  · exact .inr (.inl rfl)
  · exact .inr (.inr rfl)
theorem pows_e (j : Int) (h0 : 0 ≤ j) (h1 : j < 2) : ∃ e, bs (rdOf ByteArray.empty [(⟨#[101]⟩ : ByteArray), (⟨#[69]⟩ : ByteArray)] j) = [e] ∧ (e = 101 ∨ e = 69) := by
  have : j = 0 ∨ j = 1 := by omega
  rcases this with rfl | rfl
  · exact ⟨101, rfl, .inl rfl⟩
  · exact ⟨69, rfl, .inr rfl⟩
theorem text_dig (n : Int) (h0 : 0 ≤ n) (h1 : n ≤ 9223372036854775807) (k : Nat) (hk : 100 < k) : ∃ t, correctorlaw15_text.f k n 10 = some t ∧ Dig (bs t) ∧ bs t ≠ [] ∧ t.size ≤ 72 := by
  obtain ⟨t, t1, l, t2, t3, t4, t5, t6⟩ := text_eq n 10 (.inr (.inl rfl)) (by omega) h1 k hk
  rw [if_neg (by omega), List.nil_append] at t2
  refine ⟨t, t1, ?_, ?_, ?_⟩
  · rw [t2]; exact dig_of l t4
  · rw [t2]; exact t3
  · rw [← bs_len, t2]; exact t6
theorem float_end (x0 x1 x3 : Int) (h0 : 0 ≤ x0) (h00 : x0 < 1000) (h1 : 0 ≤ x1) (h11 : x1 < 1000) (x9 x10 x11 : ByteArray) (h9 : Sg (bs x9)) (h10 : Sg (bs x10)) (e : Int) (hx : bs x11 = [e]) (he : e = 101 ∨ e = 69) (L : List ByteArray) (hL : L.length = 5) (k : Nat) (hk : 1200 < k) :
    correctorlaw15_ResolveFloats.l0 (k + 1) x0 x1 x3 x9 x10 x11 L 5 = some true := by
  obtain ⟨A, a1, a2, a3, a4⟩ := text_dig x0 h0 (by omega) k (by omega)
  obtain ⟨B, b1, b2, b3, b4⟩ := text_dig x1 h1 (by omega) k (by omega)
  have z9 := sg_size2 x9 h9
  have z10 := sg_size2 x10 h10
  have z11 : x11.size = 1 := by rw [← bs_len, hx]; rfl
  have d1 : ∀ s : ByteArray, (s ++ (⟨#[46]⟩ : ByteArray)).size = s.size + 1 := fun s => ByteArray.size_append
  have d2 : ∀ s : ByteArray, (s ++ (⟨#[120]⟩ : ByteArray)).size = s.size + 1 := fun s => ByteArray.size_append
  have d3 : ∀ s : ByteArray, (s ++ (⟨#[95]⟩ : ByteArray)).size = s.size + 1 := fun s => ByteArray.size_append
  have d4 : ∀ s : ByteArray, (s ++ (⟨#[49]⟩ : ByteArray)).size = s.size + 1 := fun s => ByteArray.size_append
  have d5 : ∀ s t : ByteArray, (s ++ t).size = s.size + t.size := fun s t => ByteArray.size_append
  rw [correctorlaw15_ResolveFloats.l0, if_neg (by omega)]
  rw [a1, b1]
  simp only [Option.bind_some]
  obtain ⟨j, hj, j0, j1⟩ := within15 x3 6 (by decide) (by decide)
  have g : ∀ n : Nat, n ≤ 1000 → n ≤ 9223372036854775807 := fun n h => by omega
  rw [if_pos (g _ (by omega)), if_pos (g _ (by rw [d1]; omega)), if_pos (g _ (by rw [d5, d1]; omega)), if_pos (g _ (by omega)), if_pos (g _ (by rw [d5]; omega)), if_pos (g _ (by omega)), if_pos (g _ (by rw [d5]; omega)), if_pos (g _ (by rw [d1, d5]; omega)), if_pos (g _ (by rw [d5, d1, d5]; omega)), if_pos (g _ (by rw [d5, d5, d1, d5]; omega)),
    if_pos (g _ (by omega)), if_pos (g _ (by rw [d5]; omega)), if_pos (g _ (by rw [d1, d5]; omega)), if_pos (g _ (by rw [d5, d1, d5]; omega)), if_pos (g _ (by omega)), if_pos (g _ (by rw [d5]; omega)), if_pos (g _ (by rw [d2, d5]; omega)), if_pos (g _ (by omega)), if_pos (g _ (by rw [d3]; omega))]
  change ((correctorlaw15_within.f x3 6).bind fun t425 => _) = _
  rw [hj, Option.bind_some, if_pos j0]
  change (if j < (6 : Int) then _ else _) = _
  rw [if_pos j1]
  have e46 : bs (⟨#[46]⟩ : ByteArray) = [46] := rfl
  have e49 : bs (⟨#[49]⟩ : ByteArray) = [49] := rfl
  have e95 : bs (⟨#[95]⟩ : ByteArray) = [95] := rfl
  have e120 : bs (⟨#[120]⟩ : ByteArray) = [120] := rfl
  have fin : ∀ s : ByteArray, s.size ≤ 1000 → kd (bs s) = 5 → ((resolve_Kind.f k s).bind fun t427 => some (t427 == 5)) = some true := by
    intro s hs h
    rw [kind_eq s (by omega) k (by omega), h]
    rfl
  have hj6 : j = 0 ∨ j = 1 ∨ j = 2 ∨ j = 3 ∨ j = 4 ∨ j = 5 := by omega
  rcases hj6 with rfl | rfl | rfl | rfl | rfl | rfl
  · refine fin (((x9 ++ (⟨#[46]⟩ : ByteArray)) ++ x11) ++ (⟨#[49]⟩ : ByteArray)) (by rw [d4, d5, d1]; omega) ?_
    rw [bs_append, bs_append, bs_append, hx, e46, e49]
    exact bad1 _ e h9 he
  · refine fin ((x9 ++ A) ++ x11) (by rw [d5, d5]; omega) ?_
    rw [bs_append, bs_append, hx]
    exact bad2 _ _ e h9 he a2 a3
  · refine fin (((((x9 ++ A) ++ (⟨#[46]⟩ : ByteArray)) ++ B) ++ x11) ++ x10) (by rw [d5, d5, d5, d1, d5]; omega) ?_
    rw [bs_append, bs_append, bs_append, bs_append, bs_append, hx, e46]
    exact bad3 _ _ _ _ e h9 h10 he a2 b2 a3
  · refine fin ((((x9 ++ A) ++ (⟨#[46]⟩ : ByteArray)) ++ B) ++ (⟨#[46]⟩ : ByteArray)) (by rw [d1, d5, d1, d5]; omega) ?_
    rw [bs_append, bs_append, bs_append, bs_append, e46]
    exact bad4 _ _ _ h9 a2 b2 a3
  · refine fin (((x9 ++ x9) ++ (⟨#[120]⟩ : ByteArray)) ++ A) (by rw [d5, d2, d5]; omega) ?_
    rw [bs_append, bs_append, bs_append, e120]
    exact bad5 _ _ h9
  · refine fin ((A ++ (⟨#[95]⟩ : ByteArray)) ++ B) (by rw [d5, d3]; omega) ?_
    rw [bs_append, bs_append, e95]
    exact bad6 _ _ a2 a3
theorem ResolveFloats : correctorlaw15_ResolveFloats.Pure := by
  intro a b c x ha hb hc hx
  obtain ⟨K, hK⟩ : ∃ K, 1200 < K := ⟨1201, by omega⟩
  refine ⟨K + 1 + 5, ?_⟩
  unfold correctorlaw15_ResolveFloats.f
  obtain ⟨a', wa, wa0, wa1⟩ := within15 a 1000 (by decide) (by decide)
  obtain ⟨b', wb, wb0, wb1⟩ := within15 b 1000 (by decide) (by decide)
  obtain ⟨c', wc, wc0, wc1⟩ := within15 c 100 (by decide) (by decide)
  obtain ⟨i1, wi, wi0, wi1⟩ := within15 x 3 (by decide) (by decide)
  obtain ⟨i2, wj, wj0, wj1⟩ := within15 (wrap64 (Int.tdiv x 3)) 3 (by decide) (by decide)
  obtain ⟨i3, wk, wk0, wk1⟩ := within15 (wrap64 (Int.tdiv x 9)) 2 (by decide) (by decide)
  obtain ⟨A, ta, a2, a3, a4⟩ := text_dig a' wa0 (by omega) (K + 1 + 5) (by omega)
  obtain ⟨B, tb, b2, b3, b4⟩ := text_dig b' wb0 (by omega) (K + 1 + 5) (by omega)
  obtain ⟨C, tc, c2, c3, c4⟩ := text_dig c' wc0 (by omega) (K + 1 + 5) (by omega)
  have l1 : (([(⟨#[]⟩ : ByteArray), (⟨#[43]⟩ : ByteArray), (⟨#[45]⟩ : ByteArray)] : List ByteArray).length : Int) = 3 := rfl
  have l2 : (([(⟨#[101]⟩ : ByteArray), (⟨#[69]⟩ : ByteArray)] : List ByteArray).length : Int) = 2 := rfl
  have hS := signs_sg i1 wi0 wi1
  have hT := signs_sg i2 wj0 wj1
  obtain ⟨e, hE, he⟩ := pows_e i3 wk0 wk1
  rw [known15 _ (by omega), Option.bind_some, if_pos rfl, wa, Option.bind_some, wb, Option.bind_some, wc, Option.bind_some, Option.bind_some, wi, Option.bind_some, if_pos wi0, l1, if_pos wi1, Option.bind_some, wj, Option.bind_some, if_pos wj0, l1, if_pos wj1, Option.bind_some, wk, Option.bind_some, if_pos wk0, l2, if_pos wk1]
  generalize rdOf ByteArray.empty [(⟨#[]⟩ : ByteArray), (⟨#[43]⟩ : ByteArray), (⟨#[45]⟩ : ByteArray)] i1 = S at *
  generalize rdOf ByteArray.empty [(⟨#[]⟩ : ByteArray), (⟨#[43]⟩ : ByteArray), (⟨#[45]⟩ : ByteArray)] i2 = T at *
  generalize rdOf ByteArray.empty [(⟨#[101]⟩ : ByteArray), (⟨#[69]⟩ : ByteArray)] i3 = E at *
  have zS := sg_size2 S hS
  have zT := sg_size2 T hT
  have zE : E.size = 1 := by rw [← bs_len, hE]; rfl
  have d1 : ∀ s : ByteArray, (s ++ (⟨#[46]⟩ : ByteArray)).size = s.size + 1 := fun s => ByteArray.size_append
  have d5 : ∀ s t : ByteArray, (s ++ t).size = s.size + t.size := fun s t => ByteArray.size_append
  have g : ∀ n : Nat, n ≤ 1000 → n ≤ 9223372036854775807 := fun n h => by omega
  rw [ta, tb, tc]
  simp only [Option.bind_some]
  rw [if_pos (g _ (by omega)), if_pos (g _ (by rw [d5]; omega)), if_pos (g _ (by rw [d1, d5]; omega)), if_pos (g _ (by omega)), if_pos (g _ (by rw [d1]; omega)), if_pos (g _ (by omega)), if_pos (g _ (by rw [d5]; omega)), if_pos (g _ (by omega)), if_pos (g _ (by rw [d5]; omega)), if_pos (g _ (by rw [d5, d5]; omega)), if_pos (g _ (by rw [d5, d5, d5]; omega)),
    if_pos (g _ (by omega)), if_pos (g _ (by rw [d5]; omega)), if_pos (g _ (by rw [d1, d5]; omega)), if_pos (g _ (by rw [d5, d1, d5]; omega)), if_pos (g _ (by rw [d5, d5, d1, d5]; omega)), if_pos (g _ (by rw [d5, d5, d5, d1, d5]; omega))]
  have e46 : bs (⟨#[46]⟩ : ByteArray) = [46] := rfl
  have k1 : kd (bs (((S ++ A) ++ (⟨#[46]⟩ : ByteArray)) ++ B)) = 4 := by
    rw [bs_append, bs_append, bs_append, e46]
    exact good1 _ _ _ hS a2 b2 a3
  have k2 : kd (bs ((S ++ (⟨#[46]⟩ : ByteArray)) ++ B)) = 4 := by
    rw [bs_append, bs_append, e46]
    exact good2 _ _ hS b2 b3
  have k3 : kd (bs ((S ++ A) ++ (⟨#[46]⟩ : ByteArray))) = 4 := by
    rw [bs_append, bs_append, e46]
    exact good3 _ _ hS a2 a3
  have k4 : kd (bs ((((S ++ A) ++ E) ++ T) ++ C)) = 4 := by
    rw [bs_append, bs_append, bs_append, bs_append, hE]
    exact good4 _ _ _ _ e hS hT he a2 c2 a3 c3
  have k5 : kd (bs ((((((S ++ A) ++ (⟨#[46]⟩ : ByteArray)) ++ B) ++ E) ++ T) ++ C)) = 4 := by
    rw [bs_append, bs_append, bs_append, bs_append, bs_append, bs_append, hE, e46]
    exact good5 _ _ _ _ _ e hS hT he a2 b2 c2 a3 c3
  generalize hL : ([(((S ++ A) ++ (⟨#[46]⟩ : ByteArray)) ++ B), ((S ++ (⟨#[46]⟩ : ByteArray)) ++ B), ((S ++ A) ++ (⟨#[46]⟩ : ByteArray)), ((((S ++ A) ++ E) ++ T) ++ C), ((((((S ++ A) ++ (⟨#[46]⟩ : ByteArray)) ++ B) ++ E) ++ T) ++ C)] : List ByteArray) = L
  have hlen : L.length = 5 := by rw [← hL]; rfl
  have r0 := float_round a' b' x S T E L 0 (by omega) (by omega) (K + 1 + 4) (by omega) (by rw [← hL]; show ((((S ++ A) ++ (⟨#[46]⟩ : ByteArray)) ++ B)).size ≤ 1000; rw [d5, d1, d5]; omega) (by rw [← hL]; exact k1)
  have r1 := float_round a' b' x S T E L 1 (by omega) (by omega) (K + 1 + 3) (by omega) (by rw [← hL]; show ((S ++ (⟨#[46]⟩ : ByteArray)) ++ B).size ≤ 1000; rw [d5, d1]; omega) (by rw [← hL]; exact k2)
  have r2 := float_round a' b' x S T E L 2 (by omega) (by omega) (K + 1 + 2) (by omega) (by rw [← hL]; show ((S ++ A) ++ (⟨#[46]⟩ : ByteArray)).size ≤ 1000; rw [d1, d5]; omega) (by rw [← hL]; exact k3)
  have r3 := float_round a' b' x S T E L 3 (by omega) (by omega) (K + 1 + 1) (by omega) (by rw [← hL]; show ((((S ++ A) ++ E) ++ T) ++ C).size ≤ 1000; rw [d5, d5, d5, d5]; omega) (by rw [← hL]; exact k4)
  have r4 := float_round a' b' x S T E L 4 (by omega) (by omega) (K + 1) (by omega) (by rw [← hL]; show ((((((S ++ A) ++ (⟨#[46]⟩ : ByteArray)) ++ B) ++ E) ++ T) ++ C).size ≤ 1000; rw [d5, d5, d5, d5, d1, d5]; omega) (by rw [← hL]; exact k5)
  rw [show (0 : Int) = ((0 : Nat) : Int) from rfl, show K + 1 + 5 = K + 1 + 4 + 1 by omega, r0, show K + 1 + 4 = K + 1 + 3 + 1 by omega, r1, show K + 1 + 3 = K + 1 + 2 + 1 by omega, r2, show K + 1 + 2 = K + 1 + 1 + 1 by omega, r3, r4]
  exact float_end a' b' x wa0 wa1 wb0 wb1 S T E hS hT e hE he L hlen K hK
end Go.Proofs.Ytpigemgiegbblaa.Pure
