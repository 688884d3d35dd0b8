/- The reference's floats, kinds, tags; of any text the program and the reference say the same. -/
import Derived.Test.YtpigemgiegbblaaR4
namespace Go.Proofs.Ytpigemgiegbblaa.Pure
open Go.RowKit Go.Proofs.Ytpigemgiegbblaa.Q Go.Proofs.YtpigemgiegbblaaW.PrintWords Go.Proofs.YtpigemgiegbblaaW.PrintLast
set_option linter.unusedVariables false
set_option linter.unusedSimpArgs false
theorem refj2_eq (s : ByteArray) (hs : s.size ≤ 1000000) (k : Nat) (hk : s.size + 20 < k) (b : Bool) (hb : b = true ↔ (bs s).head? = some 101 ∨ (bs s).head? = some 69) : correctorref15_float.j2 k s b = some (expo (bs s)) := by
  obtain ⟨k, rfl⟩ : ∃ m, k = m + 1 := ⟨k - 1, by omega⟩
  rw [correctorref15_float.j2]
  by_cases h : 0 < s.size
  · have hc := bs_cons s h
    rw [hc] at hb ⊢
    simp only [List.head?_cons, Option.some.injEq] at hb
    obtain ⟨sg', hsg⟩ := signed_eq (s.extract 1 s.size)
    have hz := sg_size (s.extract 1 s.size)
    rw [ext_size] at hz
    cases b with
    | true =>
      have hb := hb.1 rfl
      rw [if_pos rfl, if_pos (by omega), hsg, expo_cons, ← sg1]
      simp only [Option.bind_some]
      generalize (sg (s.extract 1 s.size)).1 = u at *
      have hd := dgs_le (bs u)
      by_cases z : (u.size : Int) > 0
      · rw [if_pos z, refdigits_eq u (by omega) k (by omega)]
        simp only [Option.bind_some]
        refine congrArg some ?_
        rw [Bool.eq_iff_iff, beq_iff_eq, decide_eq_true_iff]
        rw [bs_len] at hd ⊢
        constructor
        · intro e; exact ⟨hb, by omega, by omega⟩
        · intro e; omega
      · rw [if_neg z]
        refine congrArg some (Eq.symm (decide_eq_false ?_))
        rw [bs_len] at hd
        omega
    | false =>
      rw [if_neg (by decide), emp, expo_cons, hc]
      refine congrArg some ?_
      rw [Bool.eq_iff_iff, decide_eq_true_iff, decide_eq_true_iff]
      simp only [Bool.false_eq_true, false_iff] at hb
      simp [hb]
  · rw [bs_nil s (by omega)] at hb ⊢
    cases b with
    | true => have := hb.1 rfl; simp at this
    | false => rw [if_neg (by decide), emp, bs_nil s (by omega)]; rfl
theorem refj1_eq (s : ByteArray) (hs : s.size ≤ 1000000) (n : Nat) (k : Nat) (hk : s.size + 30 < k) : correctorref15_float.j1 k s (n : Int) = some (decide (0 < n) && expo (bs s)) := by
  obtain ⟨k, rfl⟩ : ∃ m, k = m + 1 := ⟨k - 1, by omega⟩
  rw [correctorref15_float.j1]
  by_cases a : n = 0
  · subst a; rw [if_pos (by omega)]; rfl
  rw [if_neg (by omega), decide_eq_true (show 0 < n by omega), Bool.true_and]
  by_cases h : (s.size : Int) > 0
  · have hc := bs_cons s (by omega)
    have hh : (bs s).head? = some (bt s 0) := by rw [hc]; rfl
    rw [if_pos h, if_pos (show (0 : Int) < s.size from h)]
    by_cases b : bt s 0 = 101
    · rw [if_pos b]
      exact refj2_eq s hs k (by omega) true (by rw [hh]; simp [b])
    · rw [if_neg b]
      exact refj2_eq s hs k (by omega) _ (by rw [hh]; simp [b])
  · rw [if_neg h]
    exact refj2_eq s hs k (by omega) false (by rw [bs_nil s (by omega)]; simp)
theorem refj0_eq (s : ByteArray) (hs : s.size ≤ 1000000) (n : Nat) (hn : n ≤ 1000000) (k : Nat) (hk : s.size + 40 < k) (b : Bool) (hb : b = true ↔ (bs s).head? = some 46) :
    correctorref15_float.j0 k s (n : Int) b = some (decide (0 < n + (frac (bs s)).1) && expo (frac (bs s)).2) := by
  obtain ⟨k, rfl⟩ : ∃ m, k = m + 1 := ⟨k - 1, by omega⟩
  rw [correctorref15_float.j0]
  unfold frac
  cases b with
  | true =>
    have hb := hb.1 rfl
    have h0 : 0 < s.size := by
      rw [← bs_len]
      cases h : bs s with
      | nil => rw [h] at hb; cases hb
      | cons x l => simp
    have hv : (bs s).tail = bs (s.extract 1 s.size) := by rw [bs_drop, List.drop_one]
    have hsz : (s.extract 1 s.size).size = s.size - 1 := ext_size s 1
    have he : ∀ m, bs (s.extract (1 + m) s.size) = (bs (s.extract 1 s.size)).drop m := by intro m; rw [bs_drop, bs_drop, List.drop_drop]
    rw [if_pos rfl, if_pos hb, if_pos (by omega), hv]
    generalize s.extract 1 s.size = u at *
    rw [refdigits_eq u (by omega) k (by omega), Option.bind_some]
    have hd := dgs_le (bs u)
    rw [bs_len] at hd
    have he := he (dgs (bs u))
    generalize dgs (bs u) = m at *
    have e1 : wrap64 (1 + (m : Int)) = 1 + (m : Int) := w64 (by omega) (by omega)
    have e2 : wrap64 ((n : Int) + (m : Int)) = ((n + m : Nat) : Int) := by rw [w64 (by omega) (by omega)]; omega
    have e3 : ((1 : Int) + (m : Int)).toNat = 1 + m := by omega
    have hx : (s.extract (1 + m) s.size).size = s.size - (1 + m) := ext_size _ _
    rw [e1, if_pos (show 0 ≤ 1 + (m : Int) by omega), if_pos (show 1 + (m : Int) ≤ (s.size : Int) by omega), e2, e3]
    rw [← he]
    exact refj1_eq (s.extract (1 + m) s.size) (by omega) (n + m) k (by omega)
  | false =>
    rw [if_neg (by decide), if_neg (fun h => by have := hb.2 h; cases this)]
    exact refj1_eq s hs n k (by omega)
theorem reffloat_eq (s : ByteArray) (hs : s.size ≤ 1000000) (k : Nat) (hk : s.size + 50 < k) : correctorref15_float.f k s = some (flt (bs s)) := by
  obtain ⟨b, hb⟩ := signed_eq s
  have hz := sg_size s
  unfold correctorref15_float.f flt
  rw [in_eq s _ (by decide) k (by simp; omega), hb, ← sg1]
  simp only [Option.bind_some]
  have e1 : bs s ∈ List.map bs [(⟨#[46, 110, 97, 110]⟩ : ByteArray), (⟨#[46, 78, 97, 78]⟩ : ByteArray), (⟨#[46, 78, 65, 78]⟩ : ByteArray)] ↔ bs s ∈ nanL := Iff.rfl
  by_cases a : bs s ∈ nanL
  · rw [decide_eq_true (e1.2 a), decide_eq_true a]; rfl
  rw [decide_eq_false (fun h => a (e1.1 h)), if_neg (by decide), decide_eq_false a, Bool.false_or]
  generalize (sg s).1 = u at *
  rw [in_eq u _ (by decide) k (by simp; omega)]
  simp only [Option.bind_some]
  have e2 : bs u ∈ List.map bs [(⟨#[46, 105, 110, 102]⟩ : ByteArray), (⟨#[46, 73, 110, 102]⟩ : ByteArray), (⟨#[46, 73, 78, 70]⟩ : ByteArray)] ↔ bs u ∈ infL := Iff.rfl
  by_cases c : bs u ∈ infL
  · rw [decide_eq_true (e2.2 c), decide_eq_true c]; rfl
  rw [decide_eq_false (fun h => c (e2.1 h)), if_neg (by decide), decide_eq_false c, Bool.false_or, refdigits_eq u (by omega) k (by omega)]
  simp only [Option.bind_some]
  have hd := dgs_le (bs u)
  rw [bs_len] at hd
  unfold body
  rw [← bs_drop]
  have hsz := ext_size u (dgs (bs u))
  rw [if_pos (by omega), if_pos (by omega), Int.toNat_natCast]
  generalize u.extract (dgs (bs u)) u.size = v at *
  generalize dgs (bs u) = m at *
  by_cases h : (v.size : Int) > 0
  · have hh : (bs v).head? = some (bt v 0) := by rw [bs_cons v (by omega)]; rfl
    rw [if_pos h, if_pos (show (0 : Int) < v.size from h)]
    exact refj0_eq v (by omega) m (by omega) k (by omega) _ (by rw [hh]; simp)
  · rw [if_neg h]
    exact refj0_eq v (by omega) m (by omega) k (by omega) _ (by rw [bs_nil v (by omega)]; simp)
theorem refkind_eq (s : ByteArray) (hs : s.size ≤ 1000000) (k : Nat) (hk : s.size + 60 < k) : correctorref15_Kind.f k s = some (kd (bs s)) := by
  unfold correctorref15_Kind.f kd
  rw [refint_eq s hs k (by omega), in_eq s _ (by decide) k (by simp; omega), in_eq s _ (by decide) k (by simp; omega), reffloat_eq s hs k (by omega)]
  simp only [Option.bind_some]
  have e1 : bs s ∈ List.map bs [(⟨#[]⟩ : ByteArray), (⟨#[126]⟩ : ByteArray), (⟨#[110, 117, 108, 108]⟩ : ByteArray), (⟨#[78, 117, 108, 108]⟩ : ByteArray), (⟨#[78, 85, 76, 76]⟩ : ByteArray)] ↔ bs s ∈ nulL := Iff.rfl
  have e2 : bs s ∈ List.map bs [(⟨#[116, 114, 117, 101]⟩ : ByteArray), (⟨#[84, 114, 117, 101]⟩ : ByteArray), (⟨#[84, 82, 85, 69]⟩ : ByteArray), (⟨#[102, 97, 108, 115, 101]⟩ : ByteArray), (⟨#[70, 97, 108, 115, 101]⟩ : ByteArray), (⟨#[70, 65, 76, 83, 69]⟩ : ByteArray)] ↔ bs s ∈ booL := Iff.rfl
  by_cases a : bs s ∈ nulL
  · rw [decide_eq_true (e1.2 a), if_pos rfl, if_pos a]
  rw [decide_eq_false (fun h => a (e1.1 h)), if_neg (by decide), if_neg a]
  by_cases b : bs s ∈ booL
  · rw [decide_eq_true (e2.2 b), if_pos rfl, if_pos b]
  rw [decide_eq_false (fun h => b (e2.1 h)), if_neg (by decide), if_neg b]
  by_cases c : (intS (bs s)).2 = true
  · rw [if_pos c, if_pos c]
  rw [if_neg c, if_neg c]
  by_cases d : flt (bs s) = true
  · rw [if_pos d, if_pos d]
  · rw [if_neg d, if_neg d]
theorem reftag_eq (t s : ByteArray) (p : Bool) (hs : s.size ≤ 1000000) (k : Nat) (hk : s.size + 60 < k) : correctorref15_Tagged.f k t s p = some (tg (bs t) (bs s) p) := by
  obtain ⟨k, rfl⟩ : ∃ m, k = m + 1 := ⟨k - 1, by omega⟩
  unfold correctorref15_Tagged.f tg
  rw [refkind_eq s hs _ hk]
  simp only [Option.bind_some]
  have m1 := tl t [] [] rfl
  have m2 := tl t [33, 33, 102, 108, 111, 97, 116] [33, 33, 102, 108, 111, 97, 116] rfl
  have m3 := tl t [33, 33, 110, 117, 108, 108] [33, 33, 110, 117, 108, 108] rfl
  have m4 := tl t [33, 33, 98, 111, 111, 108] [33, 33, 98, 111, 111, 108] rfl
  have m5 := tl t [33, 33, 105, 110, 116] [33, 33, 105, 110, 116] rfl
  have hr := kd_range (bs s)
  generalize kd (bs s) = x at *
  by_cases a1 : bs t = []
  · rw [if_pos (m1.2 a1), if_pos a1]
    cases p with
    | true => rw [if_pos rfl, if_pos rfl]
    | false =>
      rw [if_neg (by decide), if_neg (show ¬ false = true by decide)]
      by_cases e : 5 = x
      · rw [if_pos e]
      · rw [if_neg e]
  rw [if_neg (fun h => a1 (m1.1 h)), if_neg a1]
  have j0 : ∀ b : Bool, correctorref15_Tagged.j0 (k + 1) b = some (if b = true then 4 else 5) := by intro b; rw [correctorref15_Tagged.j0]; cases b <;> rfl
  by_cases a5 : bs t = [33, 33, 105, 110, 116]
  · rw [if_pos (m5.2 a5), a5]
    by_cases e : x = 3
    · subst e; rfl
    · rw [if_neg (fun h => e h.symm)]
      simp [e]
  rw [if_neg (fun h => a5 (m5.1 h))]
  by_cases a4 : bs t = [33, 33, 98, 111, 111, 108]
  · rw [if_pos (m4.2 a4), a4]
    by_cases e : x = 2
    · subst e; rfl
    · rw [if_neg (fun h => e h.symm)]
      simp [e]
  rw [if_neg (fun h => a4 (m4.1 h))]
  by_cases a3 : bs t = [33, 33, 110, 117, 108, 108]
  · rw [if_pos (m3.2 a3), a3]
    by_cases e : x = 1
    · subst e; rfl
    · rw [if_neg (fun h => e h.symm)]
      simp [e]
  rw [if_neg (fun h => a3 (m3.1 h))]
  by_cases a2 : bs t = [33, 33, 102, 108, 111, 97, 116]
  · rw [if_pos (m2.2 a2), if_pos a2, j0, j0]
    by_cases e : x = 3
    · simp [e]
    · by_cases e2 : x = 4 <;> simp [e, e2]
  rw [if_neg (fun h => a2 (m2.1 h)), if_neg a2, if_neg a3, if_neg a4, if_neg a5]
  by_cases e : 5 = x
  · rw [if_pos e]
  · rw [if_neg e]
end Go.Proofs.Ytpigemgiegbblaa.Pure
