/- The chapter's example, numbers written, words: plain, and that the statement's own functions answer them. -/
import Derived.Test.YtpigemgiegbblaaR4
import Derived.Test.YtpigemgiegbblaaQcorrectorlaw15
namespace Go.Proofs.Ytpigemgiegbblaa.Pure
open Go.RowKit Go.Proofs.Ytpigemgiegbblaa.Q Go.Proofs.YtpigemgiegbblaaW.PrintWords Go.Proofs.YtpigemgiegbblaaW.PrintLast
set_option linter.unusedVariables false
set_option linter.unusedSimpArgs false
theorem known15 (k : Nat) (hk : 100 < k) : correctorlaw15_known.f k = some true := by
  unfold correctorlaw15_known.f
  have h4 : (⟨#[48, 120, 49, 70]⟩ : ByteArray).size = 4 := rfl
  rw [int_eq _ k (by rw [h4]; omega), kind_eq _ (by rw [h4]; omega) k (by rw [h4]; omega), show intS (bs (⟨#[48, 120, 49, 70]⟩ : ByteArray)) = (31, true) by decide +kernel, show kd (bs (⟨#[48, 120, 49, 70]⟩ : ByteArray)) = 3 by decide +kernel]
  rfl
theorem within15 (a n : Int) (h0 : 0 < n) (h1 : n ≤ 1000) : ∃ k, correctorlaw15_within.f a n = some k ∧ 0 ≤ k ∧ k < n := by
  unfold correctorlaw15_within.f
  rw [if_neg (by omega)]
  have h2 := Int.tmod_lt_of_pos a h0
  have h3 : -n < Int.tmod a n := by
    have := Int.tmod_lt_of_pos (-a) h0
    rw [Int.neg_tmod] at this
    omega
  by_cases c : Int.tmod a n < 0
  · rw [if_pos c, w64 (by omega) (by omega)]
    exact ⟨_, rfl, by omega, by omega⟩
  · rw [if_neg c]
    exact ⟨_, rfl, by omega, by omega⟩
def Words : List ByteArray := [(⟨#[48]⟩ : ByteArray), (⟨#[49]⟩ : ByteArray), (⟨#[55]⟩ : ByteArray), (⟨#[57]⟩ : ByteArray), (⟨#[49, 50]⟩ : ByteArray), (⟨#[46]⟩ : ByteArray), (⟨#[101]⟩ : ByteArray), (⟨#[69]⟩ : ByteArray), (⟨#[43]⟩ : ByteArray), (⟨#[45]⟩ : ByteArray), (⟨#[48, 120]⟩ : ByteArray), (⟨#[48, 111]⟩ : ByteArray), (⟨#[102]⟩ : ByteArray), (⟨#[65]⟩ : ByteArray), (⟨#[46, 105, 110, 102]⟩ : ByteArray), (⟨#[46, 110, 97, 110]⟩ : ByteArray), (⟨#[110, 117, 108, 108]⟩ : ByteArray), (⟨#[116, 114, 117, 101]⟩ : ByteArray), (⟨#[126]⟩ : ByteArray), (⟨#[97]⟩ : ByteArray), (⟨#[32]⟩ : ByteArray), (⟨#[95]⟩ : ByteArray)]
theorem words_len : ((Words.length : Nat) : Int) = 22 := rfl
theorem words_size (i : Int) (h0 : 0 ≤ i) (h1 : i < 22) : (rdOf ByteArray.empty Words i).size ≤ 4 := by
  have key : ∀ n : Nat, n < 22 → (rdOf ByteArray.empty Words (n : Int)).size ≤ 4 := by decide +kernel
  obtain ⟨n, rfl⟩ : ∃ n : Nat, i = (n : Int) := ⟨i.toNat, by omega⟩
  exact key n (by omega)
theorem word_go (ns : List Int) (d : Nat) : ∀ (k i : Nat) (s : ByteArray), i + d = 8 → d < k → s.size ≤ 4 * i → ∃ t, correctorlaw15_Word.l0 k ns Words s (i : Int) = some t ∧ t.size ≤ 32 := by
  induction d with
  | zero =>
    intro k i s hi hk hs
    obtain ⟨k, rfl⟩ : ∃ m, k = m + 1 := ⟨k - 1, by omega⟩
    rw [correctorlaw15_Word.l0]
    by_cases c : (i : Int) < (ns.length : Int)
    · rw [if_pos c, if_neg (by omega)]; exact ⟨_, rfl, by omega⟩
    · rw [if_neg c]; exact ⟨_, rfl, by omega⟩
  | succ d ih =>
    intro k i s hi hk hs
    obtain ⟨k, rfl⟩ : ∃ m, k = m + 1 := ⟨k - 1, by omega⟩
    rw [correctorlaw15_Word.l0]
    by_cases c : (i : Int) < (ns.length : Int)
    · obtain ⟨j, hj, j0, j1⟩ := within15 (rd ns (i : Int)) 22 (by decide) (by decide)
      have hw := words_size j j0 j1
      rw [if_pos c, if_pos (by omega), if_pos (by omega), words_len, hj, Option.bind_some, if_pos j0, if_pos j1, if_pos (by omega), w64 (by omega) (by omega), show (i : Int) + 1 = ((i + 1 : Nat) : Int) by omega]
      exact ih k (i + 1) _ (by omega) (by omega) (by rw [ByteArray.size_append]; omega)
    · rw [if_neg c]; exact ⟨_, rfl, by omega⟩
theorem word_eq (ns : List Int) (k : Nat) (hk : 10 < k) : ∃ t, correctorlaw15_Word.f k ns = some t ∧ t.size ≤ 32 := by
  unfold correctorlaw15_Word.f
  exact word_go ns 8 k 0 _ (by omega) (by omega) (by decide)
/-- What is a number is of no other kind. -/
theorem kd_int (l : List Int) : (intS l).2 = true ↔ kd l = 3 := by
  unfold kd
  constructor
  · intro h
    by_cases a : l ∈ nulL
    · have : ∀ m ∈ nulL, (intS m).2 = false := by decide +kernel
      rw [this l a] at h
      cases h
    by_cases b : l ∈ booL
    · have : ∀ m ∈ booL, (intS m).2 = false := by decide +kernel
      rw [this l b] at h
      cases h
    rw [if_neg a, if_neg b, if_pos h]
  · intro h
    by_cases a : l ∈ nulL
    · rw [if_pos a] at h; omega
    by_cases b : l ∈ booL
    · rw [if_neg a, if_pos b] at h; omega
    by_cases c : (intS l).2 = true
    · exact c
    · rw [if_neg a, if_neg b, if_neg c] at h
      split at h <;> omega
/-! Numbers, written. -/
def Hex16 : ByteArray := ⟨#[48, 49, 50, 51, 52, 53, 54, 55, 56, 57, 97, 98, 99, 100, 101, 102]⟩
theorem hex16 (d : Nat) (h : d < 16) : ∃ c, bs (Hex16.extract d (d + 1)) = [c] ∧ hexd c = d ∧ (48 ≤ c ∧ c ≤ 57 ∨ 97 ≤ c ∧ c ≤ 102) ∧ (Hex16.extract d (d + 1)).size = 1 := by
  have key : ∀ n : Nat, n < 16 → bs (Hex16.extract n (n + 1)) = [if n < 10 then 48 + (n : Int) else 87 + (n : Int)] ∧ (Hex16.extract n (n + 1)).size = 1 := by decide +kernel
  obtain ⟨h1, h2⟩ := key d h
  refine ⟨_, h1, ?_, ?_, h2⟩
  · unfold hexd
    by_cases a : d < 10
    · rw [if_pos a, if_pos (by omega)]; omega
    · rw [if_neg a, if_neg (by omega), if_pos (by omega)]; omega
  · by_cases a : d < 10
    · rw [if_pos a]; omega
    · rw [if_neg a]; omega
/-- Digits of a base. -/
def Digs (base : Int) (l : List Int) : Prop := ∀ c ∈ l, (48 ≤ c ∧ c ≤ 57 ∨ 97 ≤ c ∧ c ≤ 102) ∧ hexd c < base
theorem text_step (base : Int) (hb : Base base) (u : Int) (l : List Int) (T c : Int) (hT : u ≤ T) (h0 : 0 ≤ u) (hc : hexd c = u % base) : numr base T (c :: l) (u / base) = numr base T l u := by
  have he : u / base * base + hexd c = u := by rw [hc]; rcases hb with rfl | rfl | rfl <;> omega
  have hr : 0 ≤ u % base ∧ u % base < base := by rcases hb with rfl | rfl | rfl <;> omega
  rw [show numr base T (c :: l) (u / base) = if hexd c < 0 ∨ hexd c ≥ base ∨ u / base * base + hexd c > T then -1 else numr base T l (u / base * base + hexd c) from rfl, he, if_neg (by omega)]
theorem u64_div (base u : Int) (hb : Base base) (h0 : 0 ≤ u) (h1 : u ≤ 9223372036854775808) :
    IntKind.u64.wrap base = base ∧ Int.tmod u base = u % base ∧ IntKind.u64.wrap (u % base + 1) = u % base + 1 ∧ IntKind.u64.wrap (Int.tdiv u base) = u / base := by
  have h2 := Int.tmod_eq_emod_of_nonneg (b := base) h0
  have h3 := Int.tdiv_eq_ediv_of_nonneg (b := base) h0
  rw [h2, h3]
  rcases hb with rfl | rfl | rfl <;> (refine ⟨?_, rfl, ?_, ?_⟩ <;> (rw [IntKind.wrap_u64]; omega))
theorem text_go (base : Int) (hb : Base base) (minus : Bool) (N : Int) (m : Nat) : ∀ (k : Nat) (u : Int) (s : ByteArray), 0 ≤ u → u < 2 ^ m → u ≤ 9223372036854775808 → s.size + m ≤ 70 → m + 2 < k → Digs base (bs s) → numr base 9223372036854775808 (bs s) u = N →
    ∃ t, correctorlaw15_text.l0 k base minus u s = some t ∧ ∃ l, bs t = (if minus = true then [45] else []) ++ l ∧ l ≠ [] ∧ Digs base l ∧ numr base 9223372036854775808 l 0 = N ∧ l.length ≤ 72 := by
  have hlast : ∀ (k : Nat) (s : ByteArray), s.size ≤ 71 → 0 < k → Digs base (bs s) → bs s ≠ [] → numr base 9223372036854775808 (bs s) 0 = N →
    ∃ t, correctorlaw15_text.l0 k base minus 0 s = some t ∧ ∃ l, bs t = (if minus = true then [45] else []) ++ l ∧ l ≠ [] ∧ Digs base l ∧ numr base 9223372036854775808 l 0 = N ∧ l.length ≤ 72 := by
    intro k s hs hk hd hne hN
    obtain ⟨k, rfl⟩ : ∃ m, k = m + 1 := ⟨k - 1, by omega⟩
    have hl := bs_len s
    rw [correctorlaw15_text.l0, if_neg (by omega), if_neg (fun h => hne ((tl s [] [] rfl).1 h))]
    cases minus with
    | true => rw [if_pos rfl, if_pos (by omega)]; exact ⟨_, rfl, bs s, by rw [bs_append]; rfl, hne, hd, hN, by omega⟩
    | false => rw [if_neg (by decide)]; exact ⟨_, rfl, bs s, rfl, hne, hd, hN, by omega⟩
  have hround : ∀ (k : Nat) (u : Int) (s : ByteArray), 0 ≤ u → u ≤ 9223372036854775808 → s.size ≤ 71 → Digs base (bs s) → numr base 9223372036854775808 (bs s) u = N →
    (0 < u ∨ bs s = []) → ∃ t, correctorlaw15_text.l0 (k + 1) base minus u s = correctorlaw15_text.l0 k base minus (u / base) t ∧ bs t ≠ [] ∧ Digs base (bs t) ∧ numr base 9223372036854775808 (bs t) (u / base) = N ∧ t.size = s.size + 1 := by
    intro k u s h0 h1 hs hd hN hor
    obtain ⟨e1, e2, e3, e4⟩ := u64_div base u hb h0 h1
    have hm : 0 ≤ u % base ∧ u % base < base ∧ base ≤ 16 ∧ ¬ base = 0 := by rcases hb with rfl | rfl | rfl <;> omega
    obtain ⟨c, c1, c2, c3, c4⟩ := hex16 (u % base).toNat (by omega)
    have hx : ((u % base + 1 : Int)).toNat = (u % base).toNat + 1 := by omega
    rw [correctorlaw15_text.l0, e1, e2, e3, e4]
    simp only [if_neg hm.2.2.2, if_pos hm.1, if_pos (show u % base ≤ u % base + 1 by omega), if_pos (show u % base + 1 ≤ 16 by omega), hx]
    change ∃ t, (if u > 0 then (if (Hex16.extract (u % base).toNat ((u % base).toNat + 1)).size + s.size ≤ 9223372036854775807 then correctorlaw15_text.l0 k base minus (u / base) (Hex16.extract (u % base).toNat ((u % base).toNat + 1) ++ s) else none) else (if s.toList = ([] : List UInt8) then (if (Hex16.extract (u % base).toNat ((u % base).toNat + 1)).size + s.size ≤ 9223372036854775807 then correctorlaw15_text.l0 k base minus (u / base) (Hex16.extract (u % base).toNat ((u % base).toNat + 1) ++ s) else none) else _)) = _ ∧ _
    generalize Hex16.extract (u % base).toNat ((u % base).toNat + 1) = x at *
    refine ⟨x ++ s, ?_, ?_, ?_, ?_, ?_⟩
    · by_cases a : u > 0
      · rw [if_pos a, if_pos (by omega)]
      · have hbs : bs s = [] := by rcases hor with h | h; exact absurd h a; exact h
        rw [if_neg a, if_pos ((tl s [] [] rfl).2 hbs), if_pos (by omega)]
    · rw [bs_append, c1]; simp
    · rw [bs_append, c1]
      intro y hy
      rw [List.mem_append, List.mem_singleton] at hy
      rcases hy with rfl | hy
      · exact ⟨c3, by rw [c2]; omega⟩
      · exact hd y hy
    · rw [bs_append, c1, List.singleton_append, text_step base hb u _ _ _ h1 h0 (by rw [c2]; omega)]
      exact hN
    · rw [ByteArray.size_append]; omega
  induction m with
  | zero =>
    intro k u s h0 hu h1 hs hk hd hN
    have hu0 : u = 0 := by simp at hu; omega
    subst hu0
    by_cases a : bs s = []
    · obtain ⟨k, rfl⟩ : ∃ m, k = m + 1 := ⟨k - 1, by omega⟩
      obtain ⟨t, t1, t2, t3, t4, t5⟩ := hround k 0 s h0 h1 (by omega) hd hN (.inr a)
      rw [t1]
      have z : (0 : Int) / base = 0 := by simp
      rw [z] at t4 ⊢
      exact hlast k t (by omega) (by omega) t3 t2 t4
    · exact hlast k s (by omega) (by omega) hd a hN
  | succ m ih =>
    intro k u s h0 hu h1 hs hk hd hN
    by_cases hu0 : u = 0
    · subst hu0
      exact ih k 0 s h0 (Int.pow_pos (by decide)) h1 (by omega) (by omega) hd hN
    · obtain ⟨k, rfl⟩ : ∃ m, k = m + 1 := ⟨k - 1, by omega⟩
      obtain ⟨t, t1, t2, t3, t4, t5⟩ := hround k u s h0 h1 (by omega) hd hN (.inl (by omega))
      rw [t1]
      have hp : (2 : Int) ^ (m + 1) = 2 ^ m * 2 := Int.pow_succ _ _
      refine ih k (u / base) t ?_ ?_ ?_ (by omega) (by omega) t3 t4
      · rcases hb with rfl | rfl | rfl <;> omega
      · rcases hb with rfl | rfl | rfl <;> omega
      · rcases hb with rfl | rfl | rfl <;> omega
theorem text_eq (n base : Int) (hb : Base base) (h0 : -9223372036854775808 ≤ n) (h1 : n ≤ 9223372036854775807) (k : Nat) (hk : 100 < k) :
    ∃ t, correctorlaw15_text.f k n base = some t ∧ ∃ l, bs t = (if n < 0 then [45] else []) ++ l ∧ l ≠ [] ∧ Digs base l ∧ numr base 9223372036854775808 l 0 = (if n < 0 then -n else n) ∧ l.length ≤ 72 := by
  obtain ⟨k, rfl⟩ : ∃ m, k = m + 1 := ⟨k - 1, by omega⟩
  unfold correctorlaw15_text.f
  have hu1 : IntKind.u64.wrap n = n % 18446744073709551616 := IntKind.wrap_u64 n
  by_cases a : n < 0
  · have hu2 : IntKind.u64.wrap (-(n % 18446744073709551616)) = -n := by rw [IntKind.wrap_u64]; omega
    rw [if_pos a, decide_eq_true a, hu1, hu2, correctorlaw15_text.j0]
    simp only [if_pos a]
    obtain ⟨t, t1, l, t2, t3⟩ := text_go base hb true (-n) 64 k (-n) ⟨#[]⟩ (by omega) (by omega) (by omega) (by decide) (by omega) (by intro c hc; cases hc) rfl
    refine ⟨t, t1, l, ?_, t3⟩
    rw [t2, if_pos rfl]
  · have hu2 : n % 18446744073709551616 = n := by omega
    rw [if_neg a, decide_eq_false a, hu1, hu2, correctorlaw15_text.j0]
    simp only [if_neg a]
    obtain ⟨t, t1, l, t2, t3⟩ := text_go base hb false n 64 k n ⟨#[]⟩ (by omega) (by omega) (by omega) (by decide) (by omega) (by intro c hc; cases hc) rfl
    refine ⟨t, t1, l, ?_, t3⟩
    rw [t2, if_neg (by decide)]
end Go.Proofs.Ytpigemgiegbblaa.Pure
