/- RunesShort: a sign that is written longer than need be, one of none, or one that lacks bytes, is bad. For every input. -/
import Derived.Test.YteomjicmlaglbaaT3
import Derived.Test.YteomjicmlaglbaaQLawRunesShort
namespace Go.Proofs.Yteomjicmlaglbaa.Pure
open Go.RowKit Go.Proofs.Yteomjicmlaglbaa.Q Go.Proofs.YteomjicmlaglbaaW.PrintWords Go.Proofs.YteomjicmlaglbaaW.PrintLast
theorem within1 (a n : Int) (h : 0 < n) (h2 : n ≤ 1000000) : ∃ r, correctorlaw1_within.f a n = some r ∧ 0 ≤ r ∧ r < n := by
  unfold correctorlaw1_within.f
  rw [if_neg (by omega)]
  have hlt := Int.tmod_lt_of_pos a h
  have hgt : -n < Int.tmod a n := by
    have h1 := Int.tmod_lt_of_pos (-a) h
    rw [Int.neg_tmod] at h1
    omega
  by_cases c : Int.tmod a n < 0
  · rw [if_pos c, w64 (by omega) (by omega)]
    exact ⟨_, rfl, by omega, by omega⟩
  · rw [if_neg c]
    exact ⟨_, rfl, by omega, by omega⟩
theorem wr_head (r : Int) (h0 : 128 ≤ r) (h1 : r ≤ 1114111) : (192 ≤ rd (wr r) 0 ∧ rd (wr r) 0 < 224 ∧ (wr r).length = 2) ∨ (224 ≤ rd (wr r) 0 ∧ rd (wr r) 0 < 240 ∧ (wr r).length = 3) ∨ (240 ≤ rd (wr r) 0 ∧ rd (wr r) 0 < 248 ∧ (wr r).length = 4) := by
  unfold wr
  rw [if_neg (by omega)]
  by_cases a : r < 2048
  · rw [if_pos a, rd_c0]
    exact .inl ⟨by omega, by omega, rfl⟩
  rw [if_neg a]
  by_cases b : r < 65536
  · rw [if_pos b, rd_c0]
    exact .inr (.inl ⟨by omega, by omega, rfl⟩)
  · rw [if_neg b, rd_c0]
    exact .inr (.inr ⟨by omega, by omega, rfl⟩)
/-- Of a sign that lacks bytes there is none. -/
theorem nx_cut (r : Int) (h0 : 128 ≤ r) (h1 : r ≤ 1114111) (n : Nat) (hn : 1 ≤ n) (hn2 : n < (wr r).length) : nx ((wr r).take n) = (-1, 1) := by
  have hl : ((wr r).take n).length = n := by rw [List.length_take]; omega
  have h0' : rd ((wr r).take n) 0 = rd (wr r) 0 := rd_take _ _ _ (by simp; omega)
  have hh := wr_head r h0 h1
  rcases nx_cases ((wr r).take n) (by omega) with ⟨h, e⟩ | ⟨h, h', ⟨o1, _⟩, e⟩ | ⟨h, h', ⟨o1, _⟩, e⟩ | ⟨h, h', ⟨o1, _⟩, e⟩ | ⟨h, e⟩
  · exfalso; omega
  · exfalso; omega
  · exfalso; omega
  · exfalso; omega
  · exact e
theorem short_go (k : Nat) (a0 a1 a2 : Int) (b : Bool) (h0 : b = false → 128 ≤ a0 ∧ a0 ≤ 1114111) : correctorlaw1_RunesShort.j0 (k + 1) a0 a1 a2 b = some true := by
  simp only [correctorlaw1_RunesShort.j0]
  cases b with
  | true => rfl
  | false =>
    obtain ⟨h1, h2⟩ := h0 rfl
    rw [if_neg (by decide), write_eq a0 (by omega) h2]
    simp only [Option.bind_some]
    have hw := wr_len a0
    have hw2 : 2 ≤ (wr a0).length := by
      unfold wr
      rw [if_neg (by omega)]
      split
      · simp
      split <;> simp
    rw [w64 (by omega) (by omega)]
    obtain ⟨c, hc, hc0, hc1⟩ := within1 a1 (((wr a0).length : Int) - 1) (by omega) (by omega)
    rw [hc]
    simp only [Option.bind_some]
    rw [w64 (by omega) (by omega), if_pos (by omega), if_pos (by omega), next_eq _ ((wr_byt a0 (by omega) h2).take _), nx_cut a0 h1 h2 (1 + c).toNat (by omega) (by omega)]
    simp only [Option.bind_some]
    obtain ⟨d, hd, hd0, hd1⟩ := within1 a2 8 (by decide) (by decide)
    rw [hd]
    simp only [Option.bind_some]
    rw [if_pos hd0, if_pos (by simpa using hd1)]
    have hcases : d = 0 ∨ d = 1 ∨ d = 2 ∨ d = 3 ∨ d = 4 ∨ d = 5 ∨ d = 6 ∨ d = 7 := by omega
    have hB : ∀ l : List Int, l ∈ ([[192, 128], [224, 128, 128], [240, 128, 128, 128], [237, 160, 128], [244, 144, 128, 128], [255], [128], [248, 136, 128, 128, 128]] : List (List Int)) → runes_Next.f l = some (-1, 1) := by
      intro l hl
      have hbl : Byt l := by
        intro x hx
        simp only [List.mem_cons, List.not_mem_nil, or_false] at hl
        rcases hl with rfl | rfl | rfl | rfl | rfl | rfl | rfl | rfl <;> simp at hx <;> omega
      rw [next_eq l hbl]
      simp only [List.mem_cons, List.not_mem_nil, or_false] at hl
      rcases hl with rfl | rfl | rfl | rfl | rfl | rfl | rfl | rfl <;> decide
    rcases hcases with rfl | rfl | rfl | rfl | rfl | rfl | rfl | rfl <;> (rw [hB _ (by decide)]; rfl)
theorem RunesShort : correctorlaw1_RunesShort.Pure := by
  intro a0 a1 a2 h0 _ _
  refine ⟨5, ?_⟩
  unfold correctorlaw1_RunesShort.f
  rw [known1]
  simp only [Option.bind_some, if_true]
  by_cases a : a0 < 128
  · rw [if_pos a]; exact short_go _ _ _ _ _ (fun h => by cases h)
  rw [if_neg a]
  by_cases b : a0 > 1114111
  · rw [if_pos b]; exact short_go _ _ _ _ _ (fun h => by cases h)
  rw [if_neg b]
  by_cases c : a0 ≥ 55296
  · rw [if_pos c]; exact short_go _ _ _ _ _ (fun _ => by omega)
  · rw [if_neg c]; exact short_go _ _ _ _ _ (fun _ => by omega)
end Go.Proofs.Yteomjicmlaglbaa.Pure
