/- ResolveInts: any number is read as it was written, by ten, by sixteen, by eight. For every input. -/
import Derived.Test.YtpigemgiegbblaaR6
import Derived.Test.YtpigemgiegbblaaQLawResolveInts
namespace Go.Proofs.Ytpigemgiegbblaa.Pure
open Go.RowKit Go.Proofs.Ytpigemgiegbblaa.Q Go.Proofs.YtpigemgiegbblaaW.PrintWords Go.Proofs.YtpigemgiegbblaaW.PrintLast
set_option linter.unusedVariables false
set_option linter.unusedSimpArgs false
theorem num_false (base : Int) (l : List Int) (n : Int) (hne : l ≠ []) (h : numr base 9223372036854775808 l 0 = n) (h0 : 0 ≤ n) (h1 : n ≤ 9223372036854775807) : num false base l = (n, true) := by
  unfold num
  rw [h, if_neg (by simp [hne]; omega), if_neg (by decide)]
theorem num_true (base : Int) (l : List Int) (n : Int) (hne : l ≠ []) (h : numr base 9223372036854775808 l 0 = n) (h0 : 0 ≤ n) : num true base l = (-n, true) := by
  unfold num
  rw [h, if_neg (by simp [hne]; omega), if_pos rfl]
theorem dec_digits (l : List Int) (h : Digs 10 l) : ∀ c ∈ l, 48 ≤ c ∧ c ≤ 57 := by
  intro c hc
  obtain ⟨h1, h2⟩ := h c hc
  rcases h1 with h1 | h1
  · exact h1
  · unfold hexd at h2
    rw [if_neg (by omega), if_pos (by omega)] at h2
    omega
theorem digits_front (l : List Int) (hne : l ≠ []) (h : ∀ c ∈ l, 48 ≤ c ∧ c ≤ 57) : l.take 2 ≠ [48, 111] ∧ l.take 2 ≠ [48, 120] ∧ sgn l = (l, false) := by
  cases l with
  | nil => exact absurd rfl hne
  | cons x l =>
    have hx := h x List.mem_cons_self
    refine ⟨?_, ?_, ?_⟩
    · intro e
      cases l with
      | nil => cases e
      | cons y l =>
        have hy := h y (List.mem_cons_of_mem _ List.mem_cons_self)
        simp at e
        omega
    · intro e
      cases l with
      | nil => cases e
      | cons y l =>
        have hy := h y (List.mem_cons_of_mem _ List.mem_cons_self)
        simp at e
        omega
    · rw [sgn_cons, if_neg (by omega), if_neg (by omega)]
theorem int_text (n : Int) (h0 : -9223372036854775808 ≤ n) (h1 : n ≤ 9223372036854775807) (l : List Int) (hne : l ≠ []) (hd : Digs 10 l) (hn : numr 10 9223372036854775808 l 0 = (if n < 0 then -n else n)) :
    intS ((if n < 0 then [45] else []) ++ l) = (n, true) := by
  obtain ⟨f1, f2, f3⟩ := digits_front l hne (dec_digits l hd)
  by_cases a : n < 0
  · rw [if_pos a] at hn ⊢
    unfold intS
    rw [if_neg (by simp), if_neg (by simp), List.singleton_append, sgn_cons, if_pos rfl, num_true 10 l (-n) hne hn (by omega), Int.neg_neg]
  · rw [if_neg a] at hn ⊢
    rw [List.nil_append]
    unfold intS
    rw [if_neg f1, if_neg f2, f3, num_false 10 l n hne hn (by omega) h1]
theorem ResolveInts : correctorlaw15_ResolveInts.Pure := by
  intro n hn
  obtain ⟨n0, n1⟩ := wf_i64 hn
  obtain ⟨K, hK⟩ : ∃ K, 1000 < K := ⟨1001, by omega⟩
  refine ⟨K + 1, ?_⟩
  unfold correctorlaw15_ResolveInts.f
  obtain ⟨t, t1, l, t2, t3, t4, t5, t6⟩ := text_eq n 10 (.inr (.inl rfl)) n0 n1 (K + 1) (by omega)
  have hsz : t.size ≤ 73 := by
    rw [← bs_len, t2, List.length_append]
    split <;> (simp only [List.length_cons, List.length_nil]; omega)
  have hi := int_text n n0 n1 l t3 t4 t5
  rw [← t2] at hi
  have hk3 := (kd_int (bs t)).1 (by rw [hi])
  rw [known15 _ (by omega), Option.bind_some, if_pos rfl, t1, Option.bind_some, int_eq t _ (by omega), Option.bind_some, hi, if_pos rfl, if_pos rfl, Option.bind_some, kind_eq t (by omega) _ (by omega), Option.bind_some, hk3, show ((3 : Int) != 3) = false from rfl, correctorlaw15_ResolveInts.j0, if_neg (by decide)]
  by_cases a : n < 0
  · rw [if_pos a]
  rw [if_neg a]
  obtain ⟨u, u1, m, u2, u3, u4, u5, u6⟩ := text_eq n 16 (.inr (.inr rfl)) n0 n1 K (by omega)
  obtain ⟨v, v1, o, v2, v3, v4, v5, v6⟩ := text_eq n 8 (.inl rfl) n0 n1 K (by omega)
  obtain ⟨w, w1, p, w2, w3, w4, w5, w6⟩ := text_eq n 10 (.inr (.inl rfl)) n0 n1 K (by omega)
  rw [if_neg a] at u2 u5 v2 v5 w2 w5
  rw [List.nil_append] at u2 v2 w2
  have us : u.size ≤ 72 := by rw [← bs_len, u2]; exact u6
  have vs : v.size ≤ 72 := by rw [← bs_len, v2]; exact v6
  have ws : w.size ≤ 72 := by rw [← bs_len, w2]; exact w6
  have xs : ((⟨#[48, 120]⟩ : ByteArray) ++ u).size = 2 + u.size := ByteArray.size_append
  have ys : ((⟨#[48, 111]⟩ : ByteArray) ++ v).size = 2 + v.size := ByteArray.size_append
  have zs : ((⟨#[43]⟩ : ByteArray) ++ w).size = 1 + w.size := ByteArray.size_append
  have xi : intS (bs ((⟨#[48, 120]⟩ : ByteArray) ++ u)) = (n, true) := by
    rw [bs_append, u2]
    exact num_false 16 m n u3 u5 (by omega) n1
  have yi : intS (bs ((⟨#[48, 111]⟩ : ByteArray) ++ v)) = (n, true) := by
    rw [bs_append, v2]
    exact num_false 8 o n v3 v5 (by omega) n1
  have zi : intS (bs ((⟨#[43]⟩ : ByteArray) ++ w)) = (n, true) := by
    rw [bs_append, w2]
    exact num_false 10 p n w3 w5 (by omega) n1
  rw [u1, Option.bind_some, if_pos (by omega), int_eq _ K (by omega), Option.bind_some, xi, v1, Option.bind_some, if_pos (by omega), int_eq _ K (by omega), Option.bind_some, yi, w1, Option.bind_some, if_pos (by omega), int_eq _ K (by omega), Option.bind_some, zi, if_pos rfl, if_pos rfl, if_pos rfl, if_pos rfl, if_pos rfl]
  exact congrArg some (beq_iff_eq.2 rfl)
end Go.Proofs.Ytpigemgiegbblaa.Pure
