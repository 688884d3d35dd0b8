/- Chapter 8: heads, the law's own helpers. -/
import Derived.Test.YtpinegfbcbfnoaaE3
import Derived.Test.YtpinegfbcbfnoaaQcorrectorlaw8
namespace Go.Proofs.Ytpinegfbcbfnoaa.Pure
open Go.RowKit Go.Proofs.Ytpinegfbcbfnoaa.Q Go.Proofs.YtpinegfbcbfnoaaW.PrintWords Go.Proofs.YtpinegfbcbfnoaaW.PrintLast
set_option linter.unusedVariables false
set_option linter.unusedSimpArgs false
theorem prefix_bs (h : ByteArray) (hz : 1 ≤ h.size) : strings_HasPrefix.f h (⟨#[62]⟩ : ByteArray) = some (decide (bt h 0 = 62)) := by
  unfold strings_HasPrefix.f stringslite_HasPrefix.f
  have h1 : ((⟨#[62]⟩ : ByteArray).size : Int) = 1 := rfl
  rw [h1, if_pos (by omega), if_pos (by decide), if_pos (by omega), Option.bind_some]
  congr 1
  have h2 : (⟨#[62]⟩ : ByteArray).toList = [62] := by rw [bs_list]; rfl
  rw [h2, Bool.eq_iff_iff, beq_iff_eq, decide_eq_true_eq, bs_list]
  have h3 : bs (h.extract 0 (1 : Int).toNat) = [bt h 0] := bs_one h 0 hz
  rw [h3]
  constructor
  · intro h; exact (List.cons.inj h).1
  · intro h; rw [h]; rfl
theorem head_lit : Hd (⟨#[124]⟩ : ByteArray) false false false := ⟨(prefix_bs _ (by decide)).trans rfl, rfl, rfl⟩
theorem head_fold : Hd (⟨#[62]⟩ : ByteArray) true false false := ⟨(prefix_bs _ (by decide)).trans rfl, rfl, rfl⟩
theorem head_lit_strip : Hd (⟨#[124, 45]⟩ : ByteArray) false false true := ⟨(prefix_bs _ (by decide)).trans rfl, rfl, rfl⟩
theorem head_fold_strip : Hd (⟨#[62, 45]⟩ : ByteArray) true false true := ⟨(prefix_bs _ (by decide)).trans rfl, rfl, rfl⟩
theorem head_lit_keep : Hd (⟨#[124, 43]⟩ : ByteArray) false true false := ⟨(prefix_bs _ (by decide)).trans rfl, rfl, rfl⟩
theorem head_fold_keep : Hd (⟨#[62, 43]⟩ : ByteArray) true true false := ⟨(prefix_bs _ (by decide)).trans rfl, rfl, rfl⟩
theorem good_asc (ls : List ByteArray) (hn : ls.length ≤ 40) (h : ∀ x ∈ ls, x.size ≤ 100 ∧ Asc (bs x)) : Good ls :=
  ⟨hn, fun x hx => (h x hx).1, fun x hx => own_eq x (by have := (h x hx).1; omega) (h x hx).2⟩
theorem known8 (K : Nat) (hK : 1200 < K) : correctorlaw8_known.f K = some true := by
  have hg : Good [(⟨#[32, 32, 97, 10]⟩ : ByteArray), (⟨#[32, 32, 98, 10]⟩ : ByteArray)] := good_asc _ (by decide) fun x hx => by
    simp only [List.mem_cons, List.not_mem_nil, or_false] at hx
    rcases hx with rfl | rfl
    · exact ⟨by decide, by unfold Asc; decide⟩
    · exact ⟨by decide, by unfold Asc; decide⟩
  unfold correctorlaw8_known.f
  rw [text_eq true false false _ head_fold _ hg K (by omega), Option.bind_some]
  congr 1
  rw [beq_iff_eq, bs_list]
  decide +kernel
theorem within8 (at_ n : Int) (h0 : 0 < n) (hn : n < 1000000) : ∃ t, correctorlaw8_within.f at_ n = some t ∧ 0 ≤ t ∧ t < n := by
  unfold correctorlaw8_within.f
  rw [if_neg (by omega)]
  have h1 := Int.lt_tmod_of_pos at_ h0
  have h2 := Int.tmod_lt_of_pos at_ h0
  by_cases c : Int.tmod at_ n < 0
  · rw [if_pos c, w64 (by omega) (by omega)]
    exact ⟨_, rfl, by omega, by omega⟩
  · rw [if_neg c]
    exact ⟨_, rfl, by omega, by omega⟩
/-- Letters alone. -/
def lets (l : List Int) : Bool := l.all fun c => decide (97 ≤ c ∧ c ≤ 122)
theorem letters_loop (s : ByteArray) (hs : s.size ≤ 1000) (d : Nat) : ∀ (k i : Nat), i + d = s.size → d < k → correctorlaw8_letters.l0 k s (i : Int) = some (lets ((bs s).drop i)) := by
  induction d with
  | zero =>
    intro k i hi hk
    obtain ⟨k, rfl⟩ : ∃ m, k = m + 1 := ⟨k - 1, by omega⟩
    rw [correctorlaw8_letters.l0, if_neg (by omega), drop_end s i (by omega)]
    rfl
  | succ d ih =>
    intro k i hi hk
    obtain ⟨k, rfl⟩ : ∃ m, k = m + 1 := ⟨k - 1, by omega⟩
    rw [correctorlaw8_letters.l0, if_pos (by omega), if_pos (by omega), drop_bt s i (by omega), show lets (bt s (i : Int) :: (bs s).drop (i + 1)) = (decide (97 ≤ bt s (i : Int) ∧ bt s (i : Int) ≤ 122) && lets ((bs s).drop (i + 1))) from rfl]
    by_cases a : bt s (i : Int) < 97
    · rw [if_pos a, decide_eq_false (by omega)]
      rfl
    rw [if_neg a]
    by_cases b : bt s (i : Int) > 122
    · rw [if_pos b, decide_eq_false (by omega)]
      rfl
    · rw [if_neg b, decide_eq_true (by omega), w64 (by omega) (by omega), show (i : Int) + 1 = ((i + 1 : Nat) : Int) by omega, ih k (i + 1) (by omega) (by omega)]
      rfl
theorem letters_eq (k : Nat) (s : ByteArray) (hs : s.size ≤ 1000) (hk : s.size < k) : correctorlaw8_letters.f k s = some (lets (bs s)) := by
  unfold correctorlaw8_letters.f
  exact letters_loop s hs s.size k 0 (by omega) hk
theorem st_emp (L : List (List Int)) : ∀ (i : Nat) (a b : Int), (∀ x ∈ L, emp x = true) → st L i a b = (a, b) := by
  induction L with
  | nil => intro i a b _; rfl
  | cons x t ih =>
    intro i a b h
    rw [st, if_pos (h x (List.mem_cons_self ..))]
    exact ih _ _ _ fun y hy => h y (List.mem_cons_of_mem _ hy)
theorem st_app (X Y : List (List Int)) : ∀ (i : Nat) (a b : Int), st (X ++ Y) i a b = st Y (i + X.length) (st X i a b).1 (st X i a b).2 := by
  induction X with
  | nil => intro i a b; rfl
  | cons x t ih =>
    intro i a b
    rw [List.cons_append, st, st, List.length_cons, show i + (t.length + 1) = i + 1 + t.length by omega]
    split
    · exact ih _ _ _
    · exact ih _ _ _
theorem txt_emp (f p m : Bool) (L : List (List Int)) (h : ∀ x ∈ L, emp x = true) : txt f p m L = if p = true then List.replicate L.length 10 else [] := by
  unfold txt
  rw [st_emp L 0 (-1) (-1) h]
  rfl
theorem spaces_bs (s : ByteArray) (t : Nat) (h : bs s = List.replicate s.size 32) (ht : t ≤ s.size) : bs (s.extract 0 t) = List.replicate t 32 := by
  rw [bs_cut, List.drop_zero, Nat.sub_zero, h, List.take_replicate, Nat.min_eq_left ht]
theorem ownL_spaces (t : Nat) (l : List Int) : ownL (List.replicate t 32 ++ l) = List.replicate t 32 ++ ownL l := by
  induction t with
  | zero => rfl
  | succ t ih =>
    rw [List.replicate_succ, List.cons_append, ownL, if_neg (by decide), ih]
    rfl
theorem emp_spaces (t : Nat) : emp (List.replicate t 32) = true := by
  unfold emp
  rw [List.all_eq_true]
  intro x hx
  rw [(List.mem_replicate.1 hx).2]
  decide
theorem lets_own (l r : List Int) (h : lets l = true) : ownL (l ++ 10 :: r) = l := by
  induction l with
  | nil => rfl
  | cons c t ih =>
    have h2 : decide (97 ≤ c ∧ c ≤ 122) = true ∧ lets t = true := by
      have : (decide (97 ≤ c ∧ c ≤ 122) && lets t) = true := h
      exact Bool.and_eq_true_iff.1 this
    have h3 := of_decide_eq_true h2.1
    rw [List.cons_append, ownL, if_neg (by omega), ih h2.2]
theorem lets_head (l : List Int) (h : lets l = true) (hn : l ≠ []) : ∃ c t, l = c :: t ∧ 97 ≤ c ∧ c ≤ 122 := by
  cases l with
  | nil => exact absurd rfl hn
  | cons c t =>
    have : (decide (97 ≤ c ∧ c ≤ 122) && lets t) = true := h
    have h3 := of_decide_eq_true (Bool.and_eq_true_iff.1 this).1
    exact ⟨c, t, rfl, h3.1, h3.2⟩
theorem emp_word (m : Nat) (l : List Int) (h : lets l = true) (hn : l ≠ []) : emp (List.replicate m 32 ++ l) = false := by
  obtain ⟨c, t, rfl, h1, h2⟩ := lets_head l h hn
  unfold emp
  rw [List.all_append, List.all_cons, decide_eq_false (by omega)]
  simp
theorem spc_word (m : Nat) (l : List Int) (h : lets l = true) (hn : l ≠ []) : ∀ n, m ≤ n → spc (List.replicate m 32 ++ l) n = m := by
  obtain ⟨c, t, rfl, h1, h2⟩ := lets_head l h hn
  induction m with
  | zero =>
    intro n _
    cases n with
    | zero => rfl
    | succ n => show spc (c :: t) (n + 1) = 0; rw [spc, if_neg (by omega)]
  | succ m ih =>
    intro n hn2
    obtain ⟨n, rfl⟩ : ∃ q, n = q + 1 := ⟨n - 1, by omega⟩
    rw [List.replicate_succ, List.cons_append, spc, if_pos rfl, ih n (by omega)]
theorem cut_word (m : Nat) (l : List Int) (h : lets l = true) (hn : l ≠ []) : cutL m (List.replicate m 32 ++ l) = l := by
  unfold cutL
  rw [spc_word m l h hn m (Nat.le_refl _)]
  have := List.drop_left (l₁ := List.replicate m (32 : Int)) (l₂ := l)
  rwa [List.length_replicate] at this
theorem asc_spaces (m : Nat) (l : List Int) (h : lets l = true) : Asc (List.replicate m 32 ++ (l ++ [10])) := by
  intro x hx
  rcases List.mem_append.1 hx with h1 | h1
  · rw [(List.mem_replicate.1 h1).2]; decide
  rcases List.mem_append.1 h1 with h2 | h2
  · have := of_decide_eq_true (List.all_eq_true.1 h x h2)
    omega
  · rw [List.mem_singleton.1 h2]; decide
end Go.Proofs.Ytpinegfbcbfnoaa.Pure
