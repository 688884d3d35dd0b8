/- LinesBreaks: each kind of break ends one line; the two of one together end one. For every input. -/
import Derived.Test.YteomjicmlaglbaaT6
import Derived.Test.YteomjicmlaglbaaT7
import Derived.Test.YteomjicmlaglbaaQLawLinesBreaks
namespace Go.Proofs.Yteomjicmlaglbaa.Pure
open Go.RowKit Go.Proofs.Yteomjicmlaglbaa.Q Go.Proofs.YteomjicmlaglbaaW.PrintWords Go.Proofs.YteomjicmlaglbaaW.PrintLast
set_option linter.unusedVariables false
set_option linter.unusedSimpArgs false
def Pcs : List ByteArray := [(⟨#[120, 10]⟩ : ByteArray), (⟨#[120, 13]⟩ : ByteArray), (⟨#[120, 13, 10]⟩ : ByteArray), (⟨#[120]⟩ : ByteArray)]
theorem pcs_len : ((Pcs.length : Nat) : Int) = 4 := rfl
def pc (k : Nat) : List Int := if k = 0 then [120, 10] else if k = 1 then [120, 13] else if k = 2 then [120, 13, 10] else [120]
theorem pcs_bytes : ∀ k : Nat, k < 4 → bytesOf (rdOf ByteArray.empty Pcs (k : Int)) = pc k ∧ (rdOf ByteArray.empty Pcs (k : Int)).size ≤ 3 := by decide +kernel
/-- Pieces, laid out; how many of them end a line. -/
def lay (ks : List Nat) : List Int := ks.flatMap pc
def brk : List Nat → Nat
  | [] => 0
  | k :: ks => (if k < 3 then 1 else 0) + brk ks
theorem brk_app (a b : List Nat) : brk (a ++ b) = brk a + brk b := by
  induction a with
  | nil => simp [brk]
  | cons k a ih => simp only [List.cons_append, brk, ih]; omega
theorem lay_front (ks : List Nat) : lay ks = [] ∨ ∃ t, lay ks = 120 :: t := by
  cases ks with
  | nil => exact .inl rfl
  | cons k ks =>
    right
    have e : lay (k :: ks) = pc k ++ lay ks := rfl
    rw [e]
    unfold pc
    split
    · exact ⟨_, rfl⟩
    split
    · exact ⟨_, rfl⟩
    split
    · exact ⟨_, rfl⟩
    · exact ⟨_, rfl⟩
theorem lay_lst (ks : List Nat) : ∀ a, (lst (lay ks) a).length = brk ks := by
  induction ks with
  | nil => intro a; rfl
  | cons k ks ih =>
    intro a
    have e : lay (k :: ks) = pc k ++ lay ks := rfl
    rw [e]
    have hf := lay_front ks
    have h120 : ∀ t, ¬ brE 120 t := by intro t; unfold brE; omega
    have h10 : ∀ t, brE 10 t := fun t => .inl rfl
    have h13 : brE 13 (lay ks) := by
      right
      refine ⟨rfl, ?_⟩
      rintro ⟨g1, g2⟩
      rcases hf with h | ⟨t, h⟩
      · rw [h] at g1; exact g1 rfl
      · rw [h] at g2; exact absurd g2 (show ¬ ((120 : Int) = 10) by decide)
    have h1310 : ∀ t, ¬ brE 13 (10 :: t) := by
      intro t h
      rcases h with h | ⟨_, h⟩
      · omega
      · exact h ⟨by simp, rfl⟩
    have c120 : ∀ t a, lst (120 :: t) a = lst t (a + 1) := fun t a => by rw [lst, if_neg (h120 t)]
    have c10 : ∀ t a, lst (10 :: t) a = (a + 1) :: lst t (a + 1) := fun t a => by rw [lst, if_pos (h10 t)]
    unfold pc brk
    by_cases k0 : k = 0
    · rw [if_pos k0, if_pos (by omega), List.cons_append, List.cons_append, List.nil_append, c120, c10, List.length_cons, ih]; omega
    rw [if_neg k0]
    by_cases k1 : k = 1
    · rw [if_pos k1, if_pos (by omega), List.cons_append, List.cons_append, List.nil_append, c120, lst, if_pos h13, List.length_cons, ih]; omega
    rw [if_neg k1]
    by_cases k2 : k = 2
    · rw [if_pos k2, if_pos (by omega), List.cons_append, List.cons_append, List.cons_append, List.nil_append, c120, lst, if_neg (h1310 _), c10, List.length_cons, ih]; omega
    · rw [if_neg k2, if_neg (by omega), List.cons_append, List.nil_append, c120, ih]; omega
theorem breaks_go (l0 : List Int) (d : Nat) : ∀ (k i : Nat) (s : ByteArray) (ks : List Nat), i + d = 30 → 3 * d + 2000 < k → bytesOf s = lay ks → s.size ≤ 3 * i → brk ks ≤ i →
    correctorlaw2_LinesBreaks.l0 k l0 s ((1 + brk ks : Nat) : Int) (i : Int) = some true := by
  have hend : ∀ (k i : Nat) (s : ByteArray) (ks : List Nat), i ≤ 30 → 1000 < k → bytesOf s = lay ks → s.size ≤ 3 * i →
      correctorlaw2_LinesBreaks.j1 (k + 1) l0 s ((1 + brk ks : Nat) : Int) (i : Int) false = some true := by
    intro k i s ks hi hk hs hz
    have hl : (bytesOf s).length = s.size := bytesOf_length s
    have hst : (starts (bytesOf s)).length = 1 + brk ks := by
      unfold starts
      rw [List.length_cons, hs, lay_lst]
      omega
    have hlen := lineOf_end (bytesOf s)
    rw [correctorlaw2_LinesBreaks.j1, if_neg (by decide), if_pos (by omega), starts_eq _ (bo_byt s) (by omega) k (by omega), Option.bind_some, place_eq _ (bo_byt s) (by omega) _ k (by omega), Option.bind_some, hst, if_pos rfl, if_pos (by omega)]
    have h0 : rd (starts (bytesOf s)) 0 = 0 := rfl
    rw [h0, if_pos rfl]
    have hp : placeOf (bytesOf s) (s.size : Int) = (((1 + brk ks : Nat) : Int), (placeOf (bytesOf s) (s.size : Int)).2) := by
      unfold placeOf
      rw [if_neg (show ¬ ((s.size : Int) < 0 ∨ ((bytesOf s).length : Int) < (s.size : Int)) by omega), ← hl, hlen, hst]
    have hp2 : 1 ≤ (placeOf (bytesOf s) (s.size : Int)).2 := by
      unfold placeOf
      rw [if_neg (show ¬ ((s.size : Int) < 0 ∨ ((bytesOf s).length : Int) < (s.size : Int)) by omega)]
      simp only
      omega
    rw [if_pos (show (placeOf (bytesOf s) (s.size : Int)).1 = ((1 + brk ks : Nat) : Int) by rw [hp])]
    exact congrArg some (decide_eq_true hp2)
  induction d with
  | zero =>
    intro k i s ks hi hk hs hz hb
    obtain ⟨k, rfl⟩ : ∃ m, k = m + 2 := ⟨k - 2, by omega⟩
    rw [correctorlaw2_LinesBreaks.l0]
    by_cases c : (i : Int) < (l0.length : Int)
    · rw [if_pos c, decide_eq_false (by omega)]; exact hend k i s ks (by omega) (by omega) hs hz
    · rw [if_neg c]; exact hend k i s ks (by omega) (by omega) hs hz
  | succ d ih =>
    intro k i s ks hi hk hs hz hb
    obtain ⟨k, rfl⟩ : ∃ m, k = m + 2 := ⟨k - 2, by omega⟩
    rw [correctorlaw2_LinesBreaks.l0]
    by_cases c : (i : Int) < (l0.length : Int)
    · obtain ⟨j, hj, j0, j1⟩ := within2 (rd l0 (i : Int)) 4 (by decide) (by decide)
      obtain ⟨m, rfl⟩ : ∃ m : Nat, j = (m : Int) := ⟨j.toNat, by omega⟩
      obtain ⟨p1, p2⟩ := pcs_bytes m (by omega)
      rw [if_pos c, decide_eq_true (by omega), correctorlaw2_LinesBreaks.j1, if_pos rfl, if_pos (by omega), if_pos c, hj, Option.bind_some, Option.bind_some]
      change (if 0 ≤ (m : Int) then (if (m : Int) < (Pcs.length : Int) then (if s.size + (rdOf ByteArray.empty Pcs (m : Int)).size ≤ 9223372036854775807 then (if (m : Int) < 3 then (correctorlaw2_LinesBreaks.l0 k l0 (s ++ (rdOf ByteArray.empty Pcs (m : Int))) (wrap64 (((1 + brk ks : Nat) : Int) + 1)) (wrap64 ((i : Int) + 1))) else (correctorlaw2_LinesBreaks.l0 k l0 (s ++ (rdOf ByteArray.empty Pcs (m : Int))) ((1 + brk ks : Nat) : Int) (wrap64 ((i : Int) + 1)))) else (none)) else (none)) else (none)) = _
      have hk2 : bytesOf (s ++ rdOf ByteArray.empty Pcs (m : Int)) = lay (ks ++ [m]) := by
        rw [bo_append, hs, p1]
        simp [lay]
      have hz2 : (s ++ rdOf ByteArray.empty Pcs (m : Int)).size ≤ 3 * (i + 1) := by rw [ByteArray.size_append]; omega
      rw [if_pos j0, pcs_len, if_pos j1, if_pos (by omega), w64 (x := (i : Int) + 1) (by omega) (by omega), w64 (by omega) (by omega), show (i : Int) + 1 = ((i + 1 : Nat) : Int) by omega]
      by_cases c3 : (m : Int) < 3
      · have hb2 : brk (ks ++ [m]) = brk ks + 1 := by rw [brk_app]; simp only [brk]; rw [if_pos (by omega)]
        rw [if_pos c3, show ((1 + brk ks : Nat) : Int) + 1 = ((1 + brk (ks ++ [m]) : Nat) : Int) by omega]
        exact ih k (i + 1) _ _ (by omega) (by omega) hk2 hz2 (by omega)
      · have hb2 : brk (ks ++ [m]) = brk ks := by rw [brk_app]; simp only [brk]; rw [if_neg (by omega)]; omega
        rw [if_neg c3, ← hb2]
        exact ih k (i + 1) _ _ (by omega) (by omega) hk2 hz2 (by omega)
    · rw [if_neg c]
      exact hend k i s ks (by omega) (by omega) hs hz
theorem LinesBreaks : correctorlaw2_LinesBreaks.Pure := by
  intro l0 _ _ _
  obtain ⟨K, hK⟩ : ∃ K, 3000 < K := ⟨3001, by omega⟩
  refine ⟨K, ?_⟩
  unfold correctorlaw2_LinesBreaks.f
  rw [known2 K (by omega), Option.bind_some, if_pos rfl]
  exact breaks_go l0 30 K 0 _ [] (by omega) (by omega) rfl (by decide) (by decide)
end Go.Proofs.Yteomjicmlaglbaa.Pure
