/- Floats, kinds, tags: plain, and that the program and the reference both answer them. -/
import Derived.Test.YtpigemgiegbblaaR3
namespace Go.Proofs.Ytpigemgiegbblaa.Pure
open Go.RowKit Go.Proofs.Ytpigemgiegbblaa.Q Go.Proofs.YtpigemgiegbblaaW.PrintWords Go.Proofs.YtpigemgiegbblaaW.PrintLast
set_option linter.unusedVariables false
set_option linter.unusedSimpArgs false
def nanL : List (List Int) := [[46, 110, 97, 110], [46, 78, 97, 78], [46, 78, 65, 78]]
def infL : List (List Int) := [[46, 105, 110, 102], [46, 73, 110, 102], [46, 73, 78, 70]]
def nulL : List (List Int) := [[], [126], [110, 117, 108, 108], [78, 117, 108, 108], [78, 85, 76, 76]]
def booL : List (List Int) := [[116, 114, 117, 101], [84, 114, 117, 101], [84, 82, 85, 69], [102, 97, 108, 115, 101], [70, 97, 108, 115, 101], [70, 65, 76, 83, 69]]
/-- Nothing, or a power. -/
def expo : List Int → Bool
  | [] => true
  | c :: r => decide ((c = 101 ∨ c = 69) ∧ 0 < dgs (sgn r).1 ∧ dgs (sgn r).1 = (sgn r).1.length)
theorem expo_cons (c : Int) (r : List Int) : expo (c :: r) = decide ((c = 101 ∨ c = 69) ∧ 0 < dgs (sgn r).1 ∧ dgs (sgn r).1 = (sgn r).1.length) := rfl
/-- A point and digits: how many; what is behind. -/
def frac (l : List Int) : Nat × List Int := if l.head? = some 46 then (dgs l.tail, l.tail.drop (dgs l.tail)) else (0, l)
def body (l : List Int) : Bool := decide (0 < dgs l + (frac (l.drop (dgs l))).1) && expo (frac (l.drop (dgs l))).2
def flt (l : List Int) : Bool := decide (l ∈ nanL) || (decide ((sgn l).1 ∈ infL) || body (sgn l).1)
def kd (l : List Int) : Int := if l ∈ nulL then 1 else if l ∈ booL then 2 else if (intS l).2 = true then 3 else if flt l = true then 4 else 5
def tg (tag l : List Int) (plain : Bool) : Int :=
  if tag = [] then (if plain = true then kd l else 5)
  else if tag = [33, 33, 102, 108, 111, 97, 116] then (if kd l = 3 ∨ kd l = 4 then 4 else 5)
  else if tag = [33, 33, 110, 117, 108, 108] then (if kd l = 1 then 1 else 5)
  else if tag = [33, 33, 98, 111, 111, 108] then (if kd l = 2 then 2 else 5)
  else if tag = [33, 33, 105, 110, 116] then (if kd l = 3 then 3 else 5) else 5
theorem tl (s : ByteArray) (l : List UInt8) (m : List Int) (h : l.map (fun b => (b.toNat : Int)) = m) : s.toList = l ↔ bs s = m := by rw [bs_list, h]
theorem drop_nil_iff (l : List Int) : l.drop (dgs l) = [] ↔ dgs l = l.length := by
  have := dgs_le l
  rw [List.drop_eq_nil_iff]
  omega
theorem bs_dropI (s : ByteArray) (a : Nat) : bs (s.extract ((a : Int) : Int).toNat s.size) = (bs s).drop a := bs_drop s a
theorem floatj_eq (s : ByteArray) (n : Nat) (k : Nat) (hk : s.size + 20 < k) : resolve_float.j0 k s (n : Int) = some (decide (0 < n) && expo (bs s)) := by
  obtain ⟨k, rfl⟩ : ∃ m, k = m + 3 := ⟨k - 3, by omega⟩
  rw [resolve_float.j0]
  by_cases a : n = 0
  · subst a
    rw [if_pos (by omega), resolve_float.j1, if_pos rfl, if_neg (by omega)]
    rfl
  rw [if_neg (by omega), decide_eq_true (by omega), Bool.true_and, emp, resolve_float.j1]
  by_cases h : 0 < s.size
  · have hb := bs_cons s h
    rw [decide_eq_false (by rw [hb]; simp), if_neg (by decide), if_pos (by omega), hb]
    have hf : ∀ c : Int, (c = 101 ∨ c = 69) → resolve_float.j2 (k + 1) s false = some (expo (c :: bs (s.extract 1 s.size))) := by
      intro c hc
      have hz := sg_size (s.extract 1 s.size)
      rw [ext_size] at hz
      rw [resolve_float.j2, if_neg (by decide), if_pos (by omega), sign_eq, expo_cons, ← sg1]
      simp only [Option.bind_some]
      generalize (sg (s.extract 1 s.size)).1 = u at *
      have hd := dgs_le (bs u)
      have hi := drop_nil_iff (bs u)
      rw [digits_eq2 u k (by omega)]
      simp only [Option.bind_some]
      rw [bs_len] at hd hi
      rw [emp, bs_dropI, bs_len]
      generalize dgs (bs u) = m at *
      rw [if_pos (by omega), if_pos (by omega)]
      by_cases z : m = 0
      · rw [if_neg (by omega)]
        refine congrArg some (Eq.symm (decide_eq_false ?_))
        omega
      · rw [if_pos (by omega)]
        refine congrArg some ?_
        rw [Bool.eq_iff_iff, decide_eq_true_iff, decide_eq_true_iff, hi]
        constructor
        · intro e; exact ⟨hc, by omega, e⟩
        · intro e; exact e.2.2
    by_cases b : bt s 0 = 101
    · rw [if_pos b, b]; exact hf _ (.inl rfl)
    rw [if_neg b]
    by_cases c : bt s 0 = 69
    · rw [show ((bt s 0) != 69) = false by rw [c]; rfl, c]; exact hf _ (.inr rfl)
    · rw [bne_iff_ne.2 c, resolve_float.j2, if_pos rfl]
      rw [expo_cons]
      refine congrArg some (Eq.symm (decide_eq_false ?_))
      omega
  · rw [bs_nil s (by omega), decide_eq_true rfl, if_pos rfl, if_pos (by omega), emp, bs_nil s (by omega)]
    rfl
theorem float_eq (s : ByteArray) (hs : s.size ≤ 140737488351232) (k : Nat) (hk : s.size + 30 < k) : resolve_float.f k s = some (flt (bs s)) := by
  unfold resolve_float.f flt
  have hz := sg_size s
  have m1 := tl s [46, 110, 97, 110] [46, 110, 97, 110] rfl
  have m2 := tl s [46, 78, 97, 78] [46, 78, 97, 78] rfl
  have m3 := tl s [46, 78, 65, 78] [46, 78, 65, 78] rfl
  by_cases a1 : bs s = [46, 110, 97, 110]
  · rw [if_pos (m1.2 a1), decide_eq_true (by rw [a1]; decide)]; rfl
  rw [if_neg (fun h => a1 (m1.1 h))]
  by_cases a2 : bs s = [46, 78, 97, 78]
  · rw [if_pos (m2.2 a2), decide_eq_true (by rw [a2]; decide)]; rfl
  rw [if_neg (fun h => a2 (m2.1 h))]
  by_cases a3 : bs s = [46, 78, 65, 78]
  · rw [if_pos (m3.2 a3), decide_eq_true (by rw [a3]; decide)]; rfl
  rw [if_neg (fun h => a3 (m3.1 h)), sign_eq, decide_eq_false (show ¬ bs s ∈ nanL by simp [nanL, a1, a2, a3]), Bool.false_or, ← sg1]
  simp only [Option.bind_some]
  generalize hu : (sg s).1 = u at *
  have n1 := tl u [46, 105, 110, 102] [46, 105, 110, 102] rfl
  have n2 := tl u [46, 73, 110, 102] [46, 73, 110, 102] rfl
  have n3 := tl u [46, 73, 78, 70] [46, 73, 78, 70] rfl
  by_cases b1 : bs u = [46, 105, 110, 102]
  · rw [if_pos (n1.2 b1), decide_eq_true (by rw [b1]; decide)]; rfl
  rw [if_neg (fun h => b1 (n1.1 h))]
  by_cases b2 : bs u = [46, 73, 110, 102]
  · rw [if_pos (n2.2 b2), decide_eq_true (by rw [b2]; decide)]; rfl
  rw [if_neg (fun h => b2 (n2.1 h))]
  by_cases b3 : bs u = [46, 73, 78, 70]
  · rw [if_pos (n3.2 b3), decide_eq_true (by rw [b3]; decide)]; rfl
  rw [if_neg (fun h => b3 (n3.1 h)), decide_eq_false (show ¬ bs u ∈ infL by simp [infL, b1, b2, b3]), Bool.false_or, digits_eq2 u k (by omega)]
  simp only [Option.bind_some]
  have hd := dgs_le (bs u)
  rw [bs_len] at hd
  rw [if_pos (by omega), if_pos (by omega), Int.toNat_natCast, cut1, bs_drop]
  simp only [Option.bind_some]
  unfold body frac
  have e1 : ((46 : UInt8).toNat : Int) = 46 := rfl
  rw [e1]
  by_cases c : ((bs u).drop (dgs (bs u))).head? = some 46
  · have hv : bs ((u.extract (dgs (bs u)) u.size).extract 1 (u.extract (dgs (bs u)) u.size).size) = ((bs u).drop (dgs (bs u))).tail := by rw [bs_drop, bs_drop, List.drop_one]
    have hv2 : ((u.extract (dgs (bs u)) u.size).extract 1 (u.extract (dgs (bs u)) u.size).size).size ≤ u.size := by rw [ext_size, ext_size]; omega
    rw [if_pos c, if_pos c]
    simp only
    generalize (u.extract (dgs (bs u)) u.size).extract 1 (u.extract (dgs (bs u)) u.size).size = v at *
    have hd2 := dgs_le (bs v)
    rw [bs_len] at hd2
    rw [if_pos trivial, digits_eq2 v k (by omega)]
    simp only [Option.bind_some]
    rw [if_pos (by omega), if_pos (by omega), w64 (by omega) (by omega), ← hv, show (dgs (bs u) : Int) + (dgs (bs v) : Int) = ((dgs (bs u) + dgs (bs v) : Nat) : Int) by omega, floatj_eq _ _ _ (by rw [ext_size]; omega), bs_dropI]
  · rw [if_neg c, if_neg c]
    simp only
    rw [if_neg (by decide), floatj_eq _ _ _ (by rw [ext_size]; omega), bs_drop]
    rfl
theorem kind_eq (s : ByteArray) (hs : s.size ≤ 140737488351232) (k : Nat) (hk : s.size + 40 < k) : resolve_Kind.f k s = some (kd (bs s)) := by
  obtain ⟨k, rfl⟩ : ∃ m, k = m + 1 := ⟨k - 1, by omega⟩
  unfold resolve_Kind.f kd
  have m1 := tl s [] [] rfl
  have m2 := tl s [126] [126] rfl
  have m3 := tl s [110, 117, 108, 108] [110, 117, 108, 108] rfl
  have m4 := tl s [78, 117, 108, 108] [78, 117, 108, 108] rfl
  have m5 := tl s [78, 85, 76, 76] [78, 85, 76, 76] rfl
  by_cases a1 : bs s = []
  · rw [if_pos (m1.2 a1), if_pos (by rw [a1]; decide), resolve_Kind.j0, emp, decide_eq_true a1, if_pos rfl]
  rw [if_neg (fun h => a1 (m1.1 h))]
  by_cases a2 : bs s = [126]
  · rw [if_pos (m2.2 a2), if_pos (by rw [a2]; decide), resolve_Kind.j0, beq_iff_eq.2 (m2.2 a2), if_pos rfl]
  rw [if_neg (fun h => a2 (m2.1 h))]
  by_cases a3 : bs s = [110, 117, 108, 108]
  · rw [if_pos (m3.2 a3), if_pos (by rw [a3]; decide), resolve_Kind.j0, beq_iff_eq.2 (m3.2 a3), if_pos rfl]
  rw [if_neg (fun h => a3 (m3.1 h))]
  by_cases a4 : bs s = [78, 117, 108, 108]
  · rw [if_pos (m4.2 a4), if_pos (by rw [a4]; decide), resolve_Kind.j0, beq_iff_eq.2 (m4.2 a4), if_pos rfl]
  rw [if_neg (fun h => a4 (m4.1 h))]
  by_cases a5 : bs s = [78, 85, 76, 76]
  · rw [if_pos (show bs s ∈ nulL by rw [a5]; decide), resolve_Kind.j0, beq_iff_eq.2 (m5.2 a5), if_pos rfl]
  rw [beq_eq_false_iff_ne.2 (fun h => a5 (m5.1 h)), resolve_Kind.j0, if_neg (by decide), if_neg (show ¬ bs s ∈ nulL by simp [nulL, a1, a2, a3, a4, a5])]
  have l1 := tl s [116, 114, 117, 101] [116, 114, 117, 101] rfl
  have l2 := tl s [84, 114, 117, 101] [84, 114, 117, 101] rfl
  have l3 := tl s [84, 82, 85, 69] [84, 82, 85, 69] rfl
  have l4 := tl s [102, 97, 108, 115, 101] [102, 97, 108, 115, 101] rfl
  have l5 := tl s [70, 97, 108, 115, 101] [70, 97, 108, 115, 101] rfl
  have l6 := tl s [70, 65, 76, 83, 69] [70, 65, 76, 83, 69] rfl
  by_cases b1 : bs s = [116, 114, 117, 101]
  · rw [if_pos (l1.2 b1), if_pos (by rw [b1]; decide)]
  rw [if_neg (fun h => b1 (l1.1 h))]
  by_cases b2 : bs s = [84, 114, 117, 101]
  · rw [if_pos (l2.2 b2), if_pos (by rw [b2]; decide)]
  rw [if_neg (fun h => b2 (l2.1 h))]
  by_cases b3 : bs s = [84, 82, 85, 69]
  · rw [if_pos (l3.2 b3), if_pos (by rw [b3]; decide)]
  rw [if_neg (fun h => b3 (l3.1 h))]
  by_cases b4 : bs s = [102, 97, 108, 115, 101]
  · rw [if_pos (l4.2 b4), if_pos (by rw [b4]; decide)]
  rw [if_neg (fun h => b4 (l4.1 h))]
  by_cases b5 : bs s = [70, 97, 108, 115, 101]
  · rw [if_pos (l5.2 b5), if_pos (by rw [b5]; decide)]
  rw [if_neg (fun h => b5 (l5.1 h))]
  by_cases b6 : bs s = [70, 65, 76, 83, 69]
  · rw [if_pos (l6.2 b6), if_pos (by rw [b6]; decide)]
  rw [if_neg (fun h => b6 (l6.1 h)), if_neg (show ¬ bs s ∈ booL by simp [booL, b1, b2, b3, b4, b5, b6]), int_eq s k (by omega)]
  simp only [Option.bind_some]
  by_cases c : (intS (bs s)).2 = true
  · rw [if_pos c, if_pos c]
  rw [if_neg c, if_neg c, float_eq s hs k (by omega)]
  simp only [Option.bind_some]
  by_cases d : flt (bs s) = true
  · rw [if_pos d, if_pos d]
  · rw [if_neg d, if_neg d]
def Tags : List ByteArray := [(⟨#[]⟩ : ByteArray), (⟨#[33, 33, 110, 117, 108, 108]⟩ : ByteArray), (⟨#[33, 33, 98, 111, 111, 108]⟩ : ByteArray), (⟨#[33, 33, 105, 110, 116]⟩ : ByteArray), (⟨#[33, 33, 102, 108, 111, 97, 116]⟩ : ByteArray), (⟨#[]⟩ : ByteArray)]
theorem kd_range (l : List Int) : 1 ≤ kd l ∧ kd l ≤ 5 := by unfold kd; repeat' split <;> omega
theorem tag_eq (t s : ByteArray) (p : Bool) (hs : s.size ≤ 140737488351232) (k : Nat) (hk : s.size + 40 < k) : resolve_Tagged.f k t s p = some (tg (bs t) (bs s) p) := by
  unfold resolve_Tagged.f tg
  rw [kind_eq s hs k hk]
  simp only [Option.bind_some]
  have hr := kd_range (bs s)
  have m1 := tl t [] [] rfl
  have m2 := tl t [33, 33, 102, 108, 111, 97, 116] [33, 33, 102, 108, 111, 97, 116] rfl
  have m3 := tl t [33, 33, 110, 117, 108, 108] [33, 33, 110, 117, 108, 108] rfl
  have m4 := tl t [33, 33, 98, 111, 111, 108] [33, 33, 98, 111, 111, 108] rfl
  have m5 := tl t [33, 33, 105, 110, 116] [33, 33, 105, 110, 116] rfl
  have flip : ∀ x : ByteArray, (x.toList = t.toList) ↔ bs t = bs x := by
    intro x
    constructor
    · intro h; unfold bs; rw [ByteArray.toList_eq, ByteArray.toList_eq] at h; rw [h]
    · intro h; rw [bs_inj h]
  have f1 : (rdOf ByteArray.empty Tags 1).toList = t.toList ↔ bs t = [33, 33, 110, 117, 108, 108] := flip ⟨#[33, 33, 110, 117, 108, 108]⟩
  have f2 : (rdOf ByteArray.empty Tags 2).toList = t.toList ↔ bs t = [33, 33, 98, 111, 111, 108] := flip ⟨#[33, 33, 98, 111, 111, 108]⟩
  have f3 : (rdOf ByteArray.empty Tags 3).toList = t.toList ↔ bs t = [33, 33, 105, 110, 116] := flip ⟨#[33, 33, 105, 110, 116]⟩
  have f4 : (rdOf ByteArray.empty Tags 4).toList = t.toList ↔ bs t = [33, 33, 102, 108, 111, 97, 116] := flip ⟨#[33, 33, 102, 108, 111, 97, 116]⟩
  have f5 : (rdOf ByteArray.empty Tags 5).toList = t.toList ↔ bs t = [] := flip ⟨#[]⟩
  change (if t.toList = ([] : List UInt8) then (if p = true then (some (kd (bs s))) else (some 5)) else (if t.toList = ([33, 33, 102, 108, 111, 97, 116] : List UInt8) then (if kd (bs s) = 3 then (if (4 : Int) < ((Tags.length : Nat) : Int) then (if (rdOf ByteArray.empty Tags 4).toList = t.toList then (some 4) else (some 5)) else (none)) else (if 0 ≤ kd (bs s) then (if kd (bs s) < ((Tags.length : Nat) : Int) then (if (rdOf ByteArray.empty Tags (kd (bs s))).toList = t.toList then (some (kd (bs s))) else (some 5)) else (none)) else (none))) else (if 0 ≤ kd (bs s) then (if kd (bs s) < ((Tags.length : Nat) : Int) then (if (rdOf ByteArray.empty Tags (kd (bs s))).toList = t.toList then (some (kd (bs s))) else (some 5)) else (none)) else (none)))) = _
  have z : ((Tags.length : Nat) : Int) = 6 := rfl
  rw [z, if_pos (show 0 ≤ kd (bs s) by omega), if_pos (show kd (bs s) < 6 by omega), if_pos (show (4 : Int) < 6 by decide)]
  by_cases a1 : bs t = []
  · rw [if_pos (m1.2 a1), if_pos a1]
    cases p <;> rfl
  rw [if_neg (fun h => a1 (m1.1 h)), if_neg a1]
  have hK : kd (bs s) = 1 ∨ kd (bs s) = 2 ∨ kd (bs s) = 3 ∨ kd (bs s) = 4 ∨ kd (bs s) = 5 := by omega
  by_cases a2 : bs t = [33, 33, 102, 108, 111, 97, 116]
  · rw [if_pos (m2.2 a2), if_pos a2]
    rcases hK with e | e | e | e | e <;> rw [e] <;> simp [f1, f2, f3, f4, f5, a2]
  rw [if_neg (fun h => a2 (m2.1 h)), if_neg a2]
  by_cases a3 : bs t = [33, 33, 110, 117, 108, 108]
  · rw [if_pos a3]
    rcases hK with e | e | e | e | e <;> rw [e] <;> simp [f1, f2, f3, f4, f5, a3]
  rw [if_neg a3]
  by_cases a4 : bs t = [33, 33, 98, 111, 111, 108]
  · rw [if_pos a4]
    rcases hK with e | e | e | e | e <;> rw [e] <;> simp [f1, f2, f3, f4, f5, a4]
  rw [if_neg a4]
  by_cases a5 : bs t = [33, 33, 105, 110, 116]
  · rw [if_pos a5]
    rcases hK with e | e | e | e | e <;> rw [e] <;> simp [f1, f2, f3, f4, f5, a5]
  rw [if_neg a5]
  rcases hK with e | e | e | e | e <;> rw [e] <;> simp [f1, f2, f3, f4, f5, a1, a2, a3, a4, a5]
/-! The reference. -/
end Go.Proofs.Ytpigemgiegbblaa.Pure
