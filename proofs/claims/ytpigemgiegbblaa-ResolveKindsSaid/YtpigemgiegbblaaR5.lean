/- The reference's floats, kinds, tags; of any text the program and the reference say the same. -/
import Derived.Test.YtpigemgiegbblaaR4
import Derived.Test.YtpigemgiegbblaaQcorrectorref15
namespace Go.Proofs.Ytpigemgiegbblaa.Pure
open Go.RowKit Go.Proofs.Ytpigemgiegbblaa.Q Go.Proofs.YtpigemgiegbblaaW.PrintWords Go.Proofs.YtpigemgiegbblaaW.PrintLast
set_option linter.unusedVariables false
set_option linter.unusedSimpArgs false
theorem refnumber_go (s : ByteArray) (base top : Int) (hb : Base base) (ht : top = 9223372036854775808 ∨ top = 9223372036854775807) (hsz : s.size ≤ 1000000) (d : Nat) : ∀ (k p : Nat) (n : Int), p + d = s.size → d + 5 < k → 0 ≤ n → n ≤ top →
    correctorref15_number.l0 k s base top n (p : Int) = some (if numr base top ((bs s).drop p) n < 0 then (0, false) else (numr base top ((bs s).drop p) n, decide ((s.size : Int) > 0))) := by
  have hl := bs_len s
  induction d with
  | zero =>
    intro k p n hp hk h0 h1
    obtain ⟨k, rfl⟩ : ∃ m, k = m + 1 := ⟨k - 1, by omega⟩
    rw [correctorref15_number.l0, if_neg (by omega), List.drop_of_length_le (by omega)]
    unfold numr
    rw [if_neg (by omega)]
  | succ d ih =>
    intro k p n hp hk h0 h1
    obtain ⟨k, rfl⟩ : ∃ m, k = m + 4 := ⟨k - 4, by omega⟩
    have hcons : (bs s).drop p = rd (bs s) (p : Int) :: (bs s).drop (p + 1) := by
      rw [List.drop_eq_getElem_cons (by omega)]
      congr 1
      unfold Go.Proofs.YtpigemgiegbblaaW.PrintWords.rd
      rw [Int.toNat_natCast, List.getD_eq_getElem?_getD, List.getElem?_eq_getElem (by omega)]
      rfl
    rw [hcons]
    unfold numr
    have hr := bt_range s (p : Int)
    have hbase : ¬ IntKind.u64.wrap base = 0 := by unfold Base at hb; rw [IntKind.wrap_u64]; omega
    have hd := hexd_range (bt s (p : Int))
    rw [correctorref15_number.l0, if_pos (by omega), if_pos (by omega), refhex_eq (k + 1) _ hr.1 hr.2, ← bt_bs]
    simp only [Option.bind_some]
    generalize hexd (bt s (p : Int)) = x at *
    by_cases a : x < 0
    · rw [if_pos a, if_pos (show x < 0 ∨ x ≥ base ∨ n * base + x > top from .inl a), if_pos (by decide)]
    rw [if_neg a]
    by_cases b : x ≥ base
    · rw [if_pos b, if_pos (show x < 0 ∨ x ≥ base ∨ n * base + x > top from .inr (.inl b)), if_pos (by decide)]
    rw [if_neg b, if_neg hbase]
    by_cases t : n * base + x > top
    · rw [if_pos ((bound_iff base n x _ hb h0 (by omega) (by omega) (by omega) ht).2 t), if_pos (show x < 0 ∨ x ≥ base ∨ n * base + x > top from .inr (.inr t)), if_pos (by decide)]
    · rw [if_neg (fun h => t ((bound_iff base n x _ hb h0 (by omega) (by omega) (by omega) ht).1 h)), Int.mul_comm, next_num base n x hb h0 (by omega) (by omega) (by omega), if_neg (show ¬ (x < 0 ∨ x ≥ base ∨ n * base + x > top) by omega), w64 (by omega) (by omega), show (p : Int) + 1 = ((p + 1 : Nat) : Int) by omega]
      refine ih (k + 3) (p + 1) _ (by omega) (by omega) ?_ (by omega)
      rcases hb with rfl | rfl | rfl <;> omega
theorem refnumber_eq (s : ByteArray) (base top : Int) (hb : Base base) (ht : top = 9223372036854775808 ∨ top = 9223372036854775807) (hsz : s.size ≤ 1000000) (k : Nat) (hk : s.size + 5 < k) :
    correctorref15_number.f k s base top = some (if numr base top (bs s) 0 < 0 then (0, false) else (numr base top (bs s) 0, decide ((s.size : Int) > 0))) := by
  unfold correctorref15_number.f
  exact refnumber_go s base top hb ht hsz s.size k 0 0 (by omega) hk (by omega) (by omega)
theorem signed_eq (s : ByteArray) : ∃ b, correctorref15_signed.f s = some (b, (sg s).2, (sg s).1) := by
  unfold correctorref15_signed.f sg
  by_cases h : (s.size : Int) > 0
  · rw [if_pos h, if_pos (show (0 : Int) < s.size from h), bs_cons s (by omega)]
    simp only [List.head?_cons, Option.some.injEq]
    by_cases a : bt s 0 = 43
    · rw [if_pos a, if_pos (by omega), if_neg (by omega), if_pos a, beq_eq_false_iff_ne.2 (show bt s 0 ≠ 45 by omega)]; exact ⟨_, rfl⟩
    rw [if_neg a]
    by_cases b : bt s 0 = 45
    · rw [if_pos b, if_pos (by omega), if_pos b, beq_iff_eq.2 b]; exact ⟨_, rfl⟩
    · rw [if_neg b, if_neg b, if_neg a]; exact ⟨_, rfl⟩
  · rw [if_neg h, bs_nil s (by omega)]
    exact ⟨_, rfl⟩
theorem refdigits_go (s : ByteArray) (hs : s.size ≤ 140737488351232) (d : Nat) : ∀ (k p : Nat), p + d = s.size → d < k → correctorref15_digits.l0 k s (p : Int) = some ((p + dgs ((bs s).drop p) : Nat) : Int) := by
  have hl := bs_len s
  induction d with
  | zero =>
    intro k p hp hk
    obtain ⟨k, rfl⟩ : ∃ m, k = m + 1 := ⟨k - 1, by omega⟩
    rw [correctorref15_digits.l0, if_neg (by omega), List.drop_of_length_le (by omega)]
    congr 2
  | succ d ih =>
    intro k p hp hk
    obtain ⟨k, rfl⟩ : ∃ m, k = m + 1 := ⟨k - 1, by omega⟩
    rw [drop_cons s p (by omega), dgs_cons, correctorref15_digits.l0, if_pos (by omega), if_pos (by omega)]
    by_cases a : bt s (p : Int) ≥ 48
    · rw [if_pos a]
      by_cases b : bt s (p : Int) ≤ 57
      · rw [if_pos b, if_pos (by omega), w64 (by omega) (by omega), show (p : Int) + 1 = ((p + 1 : Nat) : Int) by omega, ih k (p + 1) (by omega) (by omega)]
        congr 2
        omega
      · rw [if_neg b, if_neg (by omega)]; rfl
    · rw [if_neg a, if_neg (by omega)]; rfl
theorem refdigits_eq (s : ByteArray) (hs : s.size ≤ 140737488351232) (k : Nat) (hk : s.size + 1 < k) : correctorref15_digits.f k s = some (dgs (bs s) : Int) := by
  unfold correctorref15_digits.f
  have := refdigits_go s hs s.size k 0 (by omega) (by omega)
  rw [List.drop_zero, Nat.zero_add] at this
  exact this
theorem in_go (s : ByteArray) (L : List ByteArray) (hL : L.length ≤ 1000) (d : Nat) : ∀ (k i : Nat), i + d = L.length → d < k → correctorref15_in.l0 k s L (i : Int) = some (decide (∃ t ∈ L.drop i, bs t = bs s)) := by
  induction d with
  | zero =>
    intro k i hi hk
    obtain ⟨k, rfl⟩ : ∃ m, k = m + 1 := ⟨k - 1, by omega⟩
    rw [correctorref15_in.l0, if_neg (by omega), List.drop_of_length_le (by omega)]
    simp
  | succ d ih =>
    intro k i hi hk
    obtain ⟨k, rfl⟩ : ∃ m, k = m + 1 := ⟨k - 1, by omega⟩
    have hc : L.drop i = rdOf ByteArray.empty L (i : Int) :: L.drop (i + 1) := by
      rw [List.drop_eq_getElem_cons (by omega)]
      congr 1
      unfold Go.Proofs.YtpigemgiegbblaaW.PrintWords.rdOf
      rw [Int.toNat_natCast, List.getD_eq_getElem?_getD, List.getElem?_eq_getElem (by omega)]
      rfl
    rw [correctorref15_in.l0, if_pos (by omega), if_pos (by omega), hc]
    have e : (rdOf ByteArray.empty L (i : Int)).toList = s.toList ↔ bs (rdOf ByteArray.empty L (i : Int)) = bs s := by
      constructor
      · intro h; rw [ByteArray.toList_eq, ByteArray.toList_eq] at h; unfold bs; rw [h]
      · intro h; rw [bs_inj h]
    by_cases a : bs (rdOf ByteArray.empty L (i : Int)) = bs s
    · rw [if_pos (e.2 a), decide_eq_true ⟨_, List.mem_cons_self, a⟩]
    · rw [if_neg (fun h => a (e.1 h)), w64 (by omega) (by omega), show (i : Int) + 1 = ((i + 1 : Nat) : Int) by omega, ih k (i + 1) (by omega) (by omega)]
      congr 1
      rw [Bool.eq_iff_iff, decide_eq_true_iff, decide_eq_true_iff]
      simp [a]
theorem in_eq (s : ByteArray) (L : List ByteArray) (hL : L.length ≤ 1000) (k : Nat) (hk : L.length < k) : correctorref15_in.f k s L = some (decide (bs s ∈ L.map bs)) := by
  unfold correctorref15_in.f
  have := in_go s L hL L.length k 0 (by omega) (by omega)
  rw [List.drop_zero] at this
  rw [show (0 : Int) = ((0 : Nat) : Int) from rfl, this]
  congr 1
  rw [Bool.eq_iff_iff, decide_eq_true_iff, decide_eq_true_iff, List.mem_map]
theorem refint_eq (s : ByteArray) (hs : s.size ≤ 1000000) (k : Nat) (hk : s.size + 12 < k) : correctorref15_Int.f k s = some (intS (bs s)) := by
  obtain ⟨k, rfl⟩ : ∃ m, k = m + 1 := ⟨k - 1, by omega⟩
  have hl := bs_len s
  have hnum : ∀ (u : ByteArray) (base : Int), Base base → u.size ≤ s.size → ((correctorref15_number.f k u base 9223372036854775807).bind fun b => some (wrap64 b.1, b.2)) = some (num false base (bs u)) := by
    intro u base hb hu
    rw [refnumber_eq u base _ hb (.inr rfl) (by omega) k (by omega)]
    have hr := numr_range base 9223372036854775808 hb (bs u) 0 (by omega) (by omega)
    have hq := numr_less base 9223372036854775808 hb (by decide) (bs u) 0 (by omega) (by decide)
    rw [show (9223372036854775808 : Int) - 1 = 9223372036854775807 from rfl] at hq
    have hz : u.size = 0 ↔ bs u = [] := by rw [← bs_len]; exact List.length_eq_zero_iff
    have he : bs u = [] → numr base 9223372036854775808 (bs u) 0 = 0 := fun h => by rw [h]; rfl
    have w0 : (wrap64 0, false) = ((0, false) : Int × Bool) := by rw [w64 (by omega) (by omega)]
    rw [hq]
    unfold num
    generalize numr base 9223372036854775808 (bs u) 0 = n at *
    simp only [Option.bind_some]
    refine congrArg some ?_
    by_cases a : n < 0
    · rw [if_neg (show ¬ n = 9223372036854775808 by omega), if_pos a, if_pos (.inl a)]; exact w0
    by_cases b : n = 9223372036854775808
    · rw [if_pos b, if_pos (by decide), if_pos (.inr (.inr ⟨b, trivial⟩))]; exact w0
    rw [if_neg b, if_neg a, if_neg (show ¬ false = true by decide)]
    by_cases c : bs u = []
    · have hn := he c
      have h0 := hz.2 c
      subst hn
      rw [if_pos (.inr (.inl c)), h0]
      exact w0
    · have h0 : ¬ u.size = 0 := fun h => c (hz.1 h)
      rw [if_neg (show ¬ (n < 0 ∨ bs u = [] ∨ n = 9223372036854775808 ∧ True) by simp [a, b, c])]
      simp only
      rw [w64 (by omega) (by omega)]
      refine congrArg (Prod.mk n) (decide_eq_true ?_)
      omega
  have hneg : ∀ (u : ByteArray), u.size ≤ s.size → ((correctorref15_number.f k u 10 9223372036854775808).bind fun b => some (wrap64 (IntKind.u64.wrap (-b.1)), b.2)) = some (num true 10 (bs u)) := by
    intro u hu
    have hb : Base 10 := .inr (.inl rfl)
    rw [refnumber_eq u 10 _ hb (.inl rfl) (by omega) k (by omega)]
    have hr := numr_range 10 9223372036854775808 hb (bs u) 0 (by omega) (by omega)
    have hz : u.size = 0 ↔ bs u = [] := by rw [← bs_len]; exact List.length_eq_zero_iff
    have he : bs u = [] → numr 10 9223372036854775808 (bs u) 0 = 0 := fun h => by rw [h]; rfl
    have w0 : (wrap64 (IntKind.u64.wrap (-0)), false) = ((0, false) : Int × Bool) := by rw [IntKind.wrap_u64]; rw [w64 (by omega) (by omega)]; rfl
    unfold num
    generalize numr 10 9223372036854775808 (bs u) 0 = n at *
    simp only [Option.bind_some]
    refine congrArg some ?_
    by_cases a : n < 0
    · rw [if_pos a, if_pos (.inl a)]; exact w0
    rw [if_neg a]
    by_cases c : bs u = []
    · have hn := he c
      have h0 := hz.2 c
      subst hn
      rw [if_pos (.inr (.inl c)), h0]
      exact w0
    · have h0 : ¬ u.size = 0 := fun h => c (hz.1 h)
      rw [if_neg (show ¬ (n < 0 ∨ bs u = [] ∨ n = 9223372036854775808 ∧ (true = false)) by simp [a, c])]
      have hu2 : IntKind.u64.wrap (-n) = (18446744073709551616 - n) % 18446744073709551616 := by rw [IntKind.wrap_u64]; omega
      have hw : wrap64 ((18446744073709551616 - n) % 18446744073709551616) = -n := by unfold wrap64; omega
      simp only [if_true]
      rw [hu2, hw]
      refine congrArg (Prod.mk (-n)) (decide_eq_true ?_)
      omega
  have hj0 : correctorref15_Int.j0 (k + 1) s false = some (num (sgn (bs s)).2 10 (sgn (bs s)).1) := by
    obtain ⟨b, hb⟩ := signed_eq s
    have hz := sg_size s
    rw [correctorref15_Int.j0, if_neg (by decide), hb, ← sg1, ← sg2]
    simp only [Option.bind_some]
    cases h : (sg s).2 with
    | true => rw [if_pos rfl]; exact hneg _ hz
    | false => rw [if_neg (by decide)]; exact hnum _ 10 (.inr (.inl rfl)) hz
  have hlet : ∀ c : Int, numr 10 9223372036854775808 (48 :: c :: []) 0 < 0 → num (sgn [48, c]).2 10 (sgn [48, c]).1 = (0, false) := by
    intro c h
    show num false 10 [48, c] = (0, false)
    unfold num
    rw [if_pos (.inl h)]
  have hnone : ∀ b : Int, num false b [] = (0, false) := fun b => by unfold num; rw [if_pos (.inr (.inl rfl))]
  unfold correctorref15_Int.f intS
  by_cases h : (s.size : Int) > 2
  · rw [if_pos h, if_pos (show (0 : Int) < s.size by omega)]
    have ht : (bs s).take 2 = [bt s 0, bt s 1] := by
      have e0 := drop_cons s 0 (by omega)
      have e1 := drop_cons s 1 (by omega)
      rw [List.drop_zero] at e0
      rw [e0, List.take_succ_cons, e1, List.take_succ_cons]
      rfl
    rw [ht]
    by_cases a : bt s 0 = 48
    · rw [if_pos a, if_pos (show (1 : Int) < s.size by omega), a]
      by_cases b : bt s 1 = 111
      · rw [if_pos b, correctorref15_Int.j0, if_pos rfl, if_pos (show (1 : Int) < s.size by omega), if_neg (by omega), if_pos (by omega), b, if_pos rfl, ← bs_drop]
        exact hnum _ 8 (.inl rfl) (by rw [ext_size]; omega)
      rw [if_neg b]
      by_cases c : bt s 1 = 120
      · rw [correctorref15_Int.j0, beq_iff_eq.2 c, if_pos rfl, if_pos (show (1 : Int) < s.size by omega), if_pos c, if_pos (by omega), c, if_neg (by decide), if_pos rfl, ← bs_drop]
        exact hnum _ 16 (.inr (.inr rfl)) (by rw [ext_size]; omega)
      · rw [beq_eq_false_iff_ne.2 c, if_neg (by simp [b]), if_neg (by simp [c])]
        exact hj0
    · rw [if_neg a, if_neg (by simp [a]), if_neg (by simp [a])]
      exact hj0
  · rw [if_neg h, hj0]
    have hn : ∀ c : Int, (bs s).take 2 = [48, c] → bs s = [48, c] := by
      intro c hc
      rw [← hc, List.take_of_length_le (by omega)]
    by_cases a : (bs s).take 2 = [48, 111]
    · rw [if_pos a, hn _ a, hlet 111 (by decide)]
      exact congrArg some (hnone 8).symm
    rw [if_neg a]
    by_cases b : (bs s).take 2 = [48, 120]
    · rw [if_pos b, hn _ b, hlet 120 (by decide)]
      exact congrArg some (hnone 16).symm
    rw [if_neg b]
theorem refj2_eq (s : ByteArray) (hs : s.size ≤ 1000000) (k : Nat) (hk : s.size + 20 < k) (b : Bool) (hb : b = true ↔ (bs s).head? = some 101 ∨ (bs s).head? = some 69) : correctorref15_float.j2 k s b = some (expo (bs s)) := by
  obtain ⟨k, rfl⟩ : ∃ m, k = m + 1 := ⟨k - 1, by omega⟩
  rw [correctorref15_float.j2]
  by_cases h : 0 < s.size
  · have hc := bs_cons s h
    rw [hc] at hb ⊢
    simp only [List.head?_cons, Option.some.injEq] at hb
    obtain ⟨sg', hsg⟩ := signed_eq (s.extract 1 s.size)
    have hz := sg_size (s.extract 1 s.size)
    rw [ext_size] at hz
    cases b with
    | true =>
      have hb := hb.1 rfl
      rw [if_pos rfl, if_pos (by omega), hsg, expo_cons, ← sg1]
      simp only [Option.bind_some]
      generalize (sg (s.extract 1 s.size)).1 = u at *
      have hd := dgs_le (bs u)
      by_cases z : (u.size : Int) > 0
      · rw [if_pos z, refdigits_eq u (by omega) k (by omega)]
        simp only [Option.bind_some]
        refine congrArg some ?_
        rw [Bool.eq_iff_iff, beq_iff_eq, decide_eq_true_iff]
        rw [bs_len] at hd ⊢
        constructor
        · intro e; exact ⟨hb, by omega, by omega⟩
        · intro e; omega
      · rw [if_neg z]
        refine congrArg some (Eq.symm (decide_eq_false ?_))
        rw [bs_len] at hd
        omega
    | false =>
      rw [if_neg (by decide), emp, expo_cons, hc]
      refine congrArg some ?_
      rw [Bool.eq_iff_iff, decide_eq_true_iff, decide_eq_true_iff]
      simp only [Bool.false_eq_true, false_iff] at hb
      simp [hb]
  · rw [bs_nil s (by omega)] at hb ⊢
    cases b with
    | true => have := hb.1 rfl; simp at this
    | false => rw [if_neg (by decide), emp, bs_nil s (by omega)]; rfl
theorem refj1_eq (s : ByteArray) (hs : s.size ≤ 1000000) (n : Nat) (k : Nat) (hk : s.size + 30 < k) : correctorref15_float.j1 k s (n : Int) = some (decide (0 < n) && expo (bs s)) := by
  obtain ⟨k, rfl⟩ : ∃ m, k = m + 1 := ⟨k - 1, by omega⟩
  rw [correctorref15_float.j1]
  by_cases a : n = 0
  · subst a; rw [if_pos (by omega)]; rfl
  rw [if_neg (by omega), decide_eq_true (show 0 < n by omega), Bool.true_and]
  by_cases h : (s.size : Int) > 0
  · have hc := bs_cons s (by omega)
    have hh : (bs s).head? = some (bt s 0) := by rw [hc]; rfl
    rw [if_pos h, if_pos (show (0 : Int) < s.size from h)]
    by_cases b : bt s 0 = 101
    · rw [if_pos b]
      exact refj2_eq s hs k (by omega) true (by rw [hh]; simp [b])
    · rw [if_neg b]
      exact refj2_eq s hs k (by omega) _ (by rw [hh]; simp [b])
  · rw [if_neg h]
    exact refj2_eq s hs k (by omega) false (by rw [bs_nil s (by omega)]; simp)
theorem refj0_eq (s : ByteArray) (hs : s.size ≤ 1000000) (n : Nat) (hn : n ≤ 1000000) (k : Nat) (hk : s.size + 40 < k) (b : Bool) (hb : b = true ↔ (bs s).head? = some 46) :
    correctorref15_float.j0 k s (n : Int) b = some (decide (0 < n + (frac (bs s)).1) && expo (frac (bs s)).2) := by
  obtain ⟨k, rfl⟩ : ∃ m, k = m + 1 := ⟨k - 1, by omega⟩
  rw [correctorref15_float.j0]
  unfold frac
  cases b with
  | true =>
    have hb := hb.1 rfl
    have h0 : 0 < s.size := by
      rw [← bs_len]
      cases h : bs s with
      | nil => rw [h] at hb; cases hb
      | cons x l => simp
    have hv : (bs s).tail = bs (s.extract 1 s.size) := by rw [bs_drop, List.drop_one]
    have hsz : (s.extract 1 s.size).size = s.size - 1 := ext_size s 1
    have he : ∀ m, bs (s.extract (1 + m) s.size) = (bs (s.extract 1 s.size)).drop m := by intro m; rw [bs_drop, bs_drop, List.drop_drop]
    rw [if_pos rfl, if_pos hb, if_pos (by omega), hv]
    generalize s.extract 1 s.size = u at *
    rw [refdigits_eq u (by omega) k (by omega), Option.bind_some]
    have hd := dgs_le (bs u)
    rw [bs_len] at hd
    have he := he (dgs (bs u))
    generalize dgs (bs u) = m at *
    have e1 : wrap64 (1 + (m : Int)) = 1 + (m : Int) := w64 (by omega) (by omega)
    have e2 : wrap64 ((n : Int) + (m : Int)) = ((n + m : Nat) : Int) := by rw [w64 (by omega) (by omega)]; omega
    have e3 : ((1 : Int) + (m : Int)).toNat = 1 + m := by omega
    have hx : (s.extract (1 + m) s.size).size = s.size - (1 + m) := ext_size _ _
    rw [e1, if_pos (show 0 ≤ 1 + (m : Int) by omega), if_pos (show 1 + (m : Int) ≤ (s.size : Int) by omega), e2, e3]
    rw [← he]
    exact refj1_eq (s.extract (1 + m) s.size) (by omega) (n + m) k (by omega)
  | false =>
    rw [if_neg (by decide), if_neg (fun h => by have := hb.2 h; cases this)]
    exact refj1_eq s hs n k (by omega)
theorem reffloat_eq (s : ByteArray) (hs : s.size ≤ 1000000) (k : Nat) (hk : s.size + 50 < k) : correctorref15_float.f k s = some (flt (bs s)) := by
  obtain ⟨b, hb⟩ := signed_eq s
  have hz := sg_size s
  unfold correctorref15_float.f flt
  rw [in_eq s _ (by decide) k (by simp; omega), hb, ← sg1]
  simp only [Option.bind_some]
  have e1 : bs s ∈ List.map bs [(⟨#[46, 110, 97, 110]⟩ : ByteArray), (⟨#[46, 78, 97, 78]⟩ : ByteArray), (⟨#[46, 78, 65, 78]⟩ : ByteArray)] ↔ bs s ∈ nanL := Iff.rfl
  by_cases a : bs s ∈ nanL
  · rw [decide_eq_true (e1.2 a), decide_eq_true a]; rfl
  rw [decide_eq_false (fun h => a (e1.1 h)), if_neg (by decide), decide_eq_false a, Bool.false_or]
  generalize (sg s).1 = u at *
  rw [in_eq u _ (by decide) k (by simp; omega)]
  simp only [Option.bind_some]
  have e2 : bs u ∈ List.map bs [(⟨#[46, 105, 110, 102]⟩ : ByteArray), (⟨#[46, 73, 110, 102]⟩ : ByteArray), (⟨#[46, 73, 78, 70]⟩ : ByteArray)] ↔ bs u ∈ infL := Iff.rfl
  by_cases c : bs u ∈ infL
  · rw [decide_eq_true (e2.2 c), decide_eq_true c]; rfl
  rw [decide_eq_false (fun h => c (e2.1 h)), if_neg (by decide), decide_eq_false c, Bool.false_or, refdigits_eq u (by omega) k (by omega)]
  simp only [Option.bind_some]
  have hd := dgs_le (bs u)
  rw [bs_len] at hd
  unfold body
  rw [← bs_drop]
  have hsz := ext_size u (dgs (bs u))
  rw [if_pos (by omega), if_pos (by omega), Int.toNat_natCast]
  generalize u.extract (dgs (bs u)) u.size = v at *
  generalize dgs (bs u) = m at *
  by_cases h : (v.size : Int) > 0
  · have hh : (bs v).head? = some (bt v 0) := by rw [bs_cons v (by omega)]; rfl
    rw [if_pos h, if_pos (show (0 : Int) < v.size from h)]
    exact refj0_eq v (by omega) m (by omega) k (by omega) _ (by rw [hh]; simp)
  · rw [if_neg h]
    exact refj0_eq v (by omega) m (by omega) k (by omega) _ (by rw [bs_nil v (by omega)]; simp)
theorem refkind_eq (s : ByteArray) (hs : s.size ≤ 1000000) (k : Nat) (hk : s.size + 60 < k) : correctorref15_Kind.f k s = some (kd (bs s)) := by
  unfold correctorref15_Kind.f kd
  rw [refint_eq s hs k (by omega), in_eq s _ (by decide) k (by simp; omega), in_eq s _ (by decide) k (by simp; omega), reffloat_eq s hs k (by omega)]
  simp only [Option.bind_some]
  have e1 : bs s ∈ List.map bs [(⟨#[]⟩ : ByteArray), (⟨#[126]⟩ : ByteArray), (⟨#[110, 117, 108, 108]⟩ : ByteArray), (⟨#[78, 117, 108, 108]⟩ : ByteArray), (⟨#[78, 85, 76, 76]⟩ : ByteArray)] ↔ bs s ∈ nulL := Iff.rfl
  have e2 : bs s ∈ List.map bs [(⟨#[116, 114, 117, 101]⟩ : ByteArray), (⟨#[84, 114, 117, 101]⟩ : ByteArray), (⟨#[84, 82, 85, 69]⟩ : ByteArray), (⟨#[102, 97, 108, 115, 101]⟩ : ByteArray), (⟨#[70, 97, 108, 115, 101]⟩ : ByteArray), (⟨#[70, 65, 76, 83, 69]⟩ : ByteArray)] ↔ bs s ∈ booL := Iff.rfl
  by_cases a : bs s ∈ nulL
  · rw [decide_eq_true (e1.2 a), if_pos rfl, if_pos a]
  rw [decide_eq_false (fun h => a (e1.1 h)), if_neg (by decide), if_neg a]
  by_cases b : bs s ∈ booL
  · rw [decide_eq_true (e2.2 b), if_pos rfl, if_pos b]
  rw [decide_eq_false (fun h => b (e2.1 h)), if_neg (by decide), if_neg b]
  by_cases c : (intS (bs s)).2 = true
  · rw [if_pos c, if_pos c]
  rw [if_neg c, if_neg c]
  by_cases d : flt (bs s) = true
  · rw [if_pos d, if_pos d]
  · rw [if_neg d, if_neg d]
theorem reftag_eq (t s : ByteArray) (p : Bool) (hs : s.size ≤ 1000000) (k : Nat) (hk : s.size + 60 < k) : correctorref15_Tagged.f k t s p = some (tg (bs t) (bs s) p) := by
  obtain ⟨k, rfl⟩ : ∃ m, k = m + 1 := ⟨k - 1, by omega⟩
  unfold correctorref15_Tagged.f tg
  rw [refkind_eq s hs _ hk]
  simp only [Option.bind_some]
  have m1 := tl t [] [] rfl
  have m2 := tl t [33, 33, 102, 108, 111, 97, 116] [33, 33, 102, 108, 111, 97, 116] rfl
  have m3 := tl t [33, 33, 110, 117, 108, 108] [33, 33, 110, 117, 108, 108] rfl
  have m4 := tl t [33, 33, 98, 111, 111, 108] [33, 33, 98, 111, 111, 108] rfl
  have m5 := tl t [33, 33, 105, 110, 116] [33, 33, 105, 110, 116] rfl
  have hr := kd_range (bs s)
  generalize kd (bs s) = x at *
  by_cases a1 : bs t = []
  · rw [if_pos (m1.2 a1), if_pos a1]
    cases p with
    | true => rw [if_pos rfl, if_pos rfl]
    | false =>
      rw [if_neg (by decide), if_neg (show ¬ false = true by decide)]
      by_cases e : 5 = x
      · rw [if_pos e]
      · rw [if_neg e]
  rw [if_neg (fun h => a1 (m1.1 h)), if_neg a1]
  have j0 : ∀ b : Bool, correctorref15_Tagged.j0 (k + 1) b = some (if b = true then 4 else 5) := by intro b; rw [correctorref15_Tagged.j0]; cases b <;> rfl
  by_cases a5 : bs t = [33, 33, 105, 110, 116]
  · rw [if_pos (m5.2 a5), a5]
    by_cases e : x = 3
    · subst e; rfl
    · rw [if_neg (fun h => e h.symm)]
      simp [e]
  rw [if_neg (fun h => a5 (m5.1 h))]
  by_cases a4 : bs t = [33, 33, 98, 111, 111, 108]
  · rw [if_pos (m4.2 a4), a4]
    by_cases e : x = 2
    · subst e; rfl
    · rw [if_neg (fun h => e h.symm)]
      simp [e]
  rw [if_neg (fun h => a4 (m4.1 h))]
  by_cases a3 : bs t = [33, 33, 110, 117, 108, 108]
  · rw [if_pos (m3.2 a3), a3]
    by_cases e : x = 1
    · subst e; rfl
    · rw [if_neg (fun h => e h.symm)]
      simp [e]
  rw [if_neg (fun h => a3 (m3.1 h))]
  by_cases a2 : bs t = [33, 33, 102, 108, 111, 97, 116]
  · rw [if_pos (m2.2 a2), if_pos a2, j0, j0]
    by_cases e : x = 3
    · simp [e]
    · by_cases e2 : x = 4 <;> simp [e, e2]
  rw [if_neg (fun h => a2 (m2.1 h)), if_neg a2, if_neg a3, if_neg a4, if_neg a5]
  by_cases e : 5 = x
  · rw [if_pos e]
  · rw [if_neg e]
end Go.Proofs.Ytpigemgiegbblaa.Pure
