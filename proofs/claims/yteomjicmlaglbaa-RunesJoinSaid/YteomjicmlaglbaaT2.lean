/- A sign that is written in UTF-8 is read back, whatever stands behind it; and pieces of a list of bytes. -/
import Derived.Test.YteomjicmlaglbaaT1
import Derived.Test.YteomjicmlaglbaaQcorrectorlaw1
namespace Go.Proofs.Yteomjicmlaglbaa.Pure
open Go.RowKit Go.Proofs.Yteomjicmlaglbaa.Q Go.Proofs.YteomjicmlaglbaaW.PrintWords Go.Proofs.YteomjicmlaglbaaW.PrintLast

/-- A sign of the language. -/
def Sgn (r : Int) : Prop := 0 ≤ r ∧ r ≤ 1114111 ∧ ¬ (55296 ≤ r ∧ r ≤ 57343)
/-- It, written in UTF-8. -/
def wr (r : Int) : List Int :=
  if r < 128 then [r] else if r < 2048 then [192 + r / 64, 128 + r % 64] else if r < 65536 then [224 + r / 4096, 128 + r / 64 % 64, 128 + r % 64]
  else [240 + r / 262144, 128 + r / 4096 % 64, 128 + r / 64 % 64, 128 + r % 64]
theorem i32_and63 (x : Int) (h0 : 0 ≤ x) (h1 : x < 2147483648) : Go.bits .and .i32 x 63 = x % 64 := bits_mask .i32 31 (by decide) wraps_i32 6 (by decide) x h0 (by simpa using h1)
theorem i32_or7 (x y : Int) (hx0 : 0 ≤ x) (hx : x % 128 = 0) (hx1 : x < 2147483648) (h0 : 0 ≤ y) (h1 : y < 128) : Go.bits .or .i32 x y = x + y :=
  bits_join .i32 31 (by decide) wraps_i32 7 x y hx0 (by simpa using hx) (by simpa using hx1) h0 (by simpa using h1) (by simp; omega)
theorem i32_or5 (x y : Int) (hx0 : 0 ≤ x) (hx : x % 32 = 0) (hx1 : x < 2147483648) (h0 : 0 ≤ y) (h1 : y < 32) : Go.bits .or .i32 x y = x + y :=
  bits_join .i32 31 (by decide) wraps_i32 5 x y hx0 (by simpa using hx) (by simpa using hx1) h0 (by simpa using h1) (by simp; omega)
theorem i32_or4 (x y : Int) (hx0 : 0 ≤ x) (hx : x % 16 = 0) (hx1 : x < 2147483648) (h0 : 0 ≤ y) (h1 : y < 16) : Go.bits .or .i32 x y = x + y :=
  bits_join .i32 31 (by decide) wraps_i32 4 x y hx0 (by simpa using hx) (by simpa using hx1) h0 (by simpa using h1) (by simp; omega)
theorem write_eq (r : Int) (h0 : 0 ≤ r) (h1 : r ≤ 1114111) : correctorref1_Write.f r = some (wr r) := by
  unfold correctorref1_Write.f wr
  by_cases a : r < 128
  · rw [if_pos a, if_pos a, show r % 256 = r by omega]
  rw [if_neg a, if_neg a]
  by_cases b : r < 2048
  · rw [if_pos b, if_pos b, i32_and63 r h0 (by omega), i32_or5 192 _ (by omega) (by decide) (by omega) (by omega) (by omega), i32_or6 128 _ (by omega) (by decide) (by omega) (by omega) (by omega), show (192 + r / 64) % 256 = 192 + r / 64 by omega, show (128 + r % 64) % 256 = 128 + r % 64 by omega]
  rw [if_neg b, if_neg b]
  by_cases c : r < 65536
  · rw [if_pos c, if_pos c, i32_and63 r h0 (by omega), i32_and63 (r / 64) (by omega) (by omega), i32_or4 224 _ (by omega) (by decide) (by omega) (by omega) (by omega), i32_or6 128 (r / 64 % 64) (by omega) (by decide) (by omega) (by omega) (by omega), i32_or6 128 (r % 64) (by omega) (by decide) (by omega) (by omega) (by omega), show (224 + r / 4096) % 256 = 224 + r / 4096 by omega, show (128 + r / 64 % 64) % 256 = 128 + r / 64 % 64 by omega, show (128 + r % 64) % 256 = 128 + r % 64 by omega]
  · rw [if_neg c, if_neg c, i32_and63 r h0 (by omega), i32_and63 (r / 64) (by omega) (by omega), i32_and63 (r / 4096) (by omega) (by omega), i32_or4 240 _ (by omega) (by decide) (by omega) (by omega) (by omega), i32_or6 128 (r / 4096 % 64) (by omega) (by decide) (by omega) (by omega) (by omega), i32_or6 128 (r / 64 % 64) (by omega) (by decide) (by omega) (by omega) (by omega), i32_or6 128 (r % 64) (by omega) (by decide) (by omega) (by omega) (by omega), show (240 + r / 262144) % 256 = 240 + r / 262144 by omega, show (128 + r / 4096 % 64) % 256 = 128 + r / 4096 % 64 by omega, show (128 + r / 64 % 64) % 256 = 128 + r / 64 % 64 by omega, show (128 + r % 64) % 256 = 128 + r % 64 by omega]
theorem wr_byt (r : Int) (h0 : 0 ≤ r) (h1 : r ≤ 1114111) : Byt (wr r) := by
  intro x hx
  unfold wr at hx
  split at hx
  · simp at hx; omega
  split at hx
  · simp at hx; omega
  split at hx
  · simp at hx; omega
  · simp at hx; omega
theorem wr_len (r : Int) : 1 ≤ (wr r).length ∧ (wr r).length ≤ 4 := by
  unfold wr
  split
  · simp
  split
  · simp
  split
  · simp
  · simp
theorem rd_c0 (x : Int) (t : List Int) : rd (x :: t) 0 = x := rfl
theorem rd_c1 (x y : Int) (t : List Int) : rd (x :: y :: t) 1 = y := rfl
theorem rd_c2 (x y z : Int) (t : List Int) : rd (x :: y :: z :: t) 2 = z := rfl
theorem rd_c3 (x y z u : Int) (t : List Int) : rd (x :: y :: z :: u :: t) 3 = u := rfl
/-- Read as it was written, whatever stands behind. -/
theorem nx_wr (r : Int) (hr : Sgn r) (m : List Int) : nx (wr r ++ m) = (r, ((wr r).length : Int)) := by
  obtain ⟨h0, h1, h2⟩ := hr
  unfold wr
  by_cases a : r < 128
  · rw [if_pos a]
    rw [nx_1 (by simp) (by rw [List.cons_append, rd_c0]; exact a), List.cons_append, rd_c0]
    rfl
  rw [if_neg a]
  by_cases b : r < 2048
  · rw [if_pos b]
    have o : Ok2 ([192 + r / 64, 128 + r % 64] ++ m) := by
      refine ⟨by simp, ?_, ?_⟩
      · simp only [List.cons_append, rd_c1]; unfold Ct; omega
      · unfold v2; simp only [List.cons_append, rd_c1, rd_c0]; omega
    rw [nx_2 (by simp) (by simp only [List.cons_append, rd_c0]; omega) (by simp only [List.cons_append, rd_c0]; omega) o]
    unfold v2
    simp only [List.cons_append, rd_c0, rd_c1]
    refine Prod.ext ?_ ?_
    · simp only; omega
    · rfl
  rw [if_neg b]
  by_cases c : r < 65536
  · rw [if_pos c]
    have o : Ok3 ([224 + r / 4096, 128 + r / 64 % 64, 128 + r % 64] ++ m) := by
      refine ⟨by simp, ?_, ?_, ?_, ?_⟩
      · simp only [List.cons_append, rd_c1]; unfold Ct; omega
      · simp only [List.cons_append, rd_c2]; unfold Ct; omega
      · unfold v3; simp only [List.cons_append, rd_c2, rd_c1, rd_c0]; omega
      · unfold v3; simp only [List.cons_append, rd_c2, rd_c1, rd_c0]; omega
    rw [nx_3 (by simp) (by simp only [List.cons_append, rd_c0]; omega) (by simp only [List.cons_append, rd_c0]; omega) o]
    unfold v3
    simp only [List.cons_append, rd_c0, rd_c1, rd_c2]
    refine Prod.ext ?_ ?_
    · simp only; omega
    · rfl
  · rw [if_neg c]
    have o : Ok4 ([240 + r / 262144, 128 + r / 4096 % 64, 128 + r / 64 % 64, 128 + r % 64] ++ m) := by
      refine ⟨by simp, ?_, ?_, ?_, ?_, ?_⟩
      · simp only [List.cons_append, rd_c1]; unfold Ct; omega
      · simp only [List.cons_append, rd_c2]; unfold Ct; omega
      · simp only [List.cons_append, rd_c3]; unfold Ct; omega
      · unfold v4; simp only [List.cons_append, rd_c3, rd_c2, rd_c1, rd_c0]; omega
      · unfold v4; simp only [List.cons_append, rd_c3, rd_c2, rd_c1, rd_c0]; omega
    rw [nx_4 (by simp) (by simp only [List.cons_append, rd_c0]; omega) (by simp only [List.cons_append, rd_c0]; omega) o]
    unfold v4
    simp only [List.cons_append, rd_c0, rd_c1, rd_c2, rd_c3]
    refine Prod.ext ?_ ?_
    · simp only; omega
    · rfl
theorem wf_i32 {a : Int} (h : (Lit.int .i32 a).wf = true) : -2147483648 ≤ a ∧ a ≤ 2147483647 := by
  simp [Lit.wf, IntKind.min, IntKind.max, IntKind.signed, IntKind.bits] at h
  omega
theorem wf_i64 {a : Int} (h : (Lit.int .i64 a).wf = true) : -9223372036854775808 ≤ a ∧ a ≤ 9223372036854775807 := by
  simp [Lit.wf, IntKind.min, IntKind.max, IntKind.signed, IntKind.bits] at h
  omega
theorem wf_u8 {a : Int} (h : (Lit.int .u8 a).wf = true) : 0 ≤ a ∧ a ≤ 255 := by
  simp [Lit.wf, IntKind.min, IntKind.max, IntKind.signed, IntKind.bits] at h
  omega
theorem known1 : correctorlaw1_known.f = some true := by
  unfold correctorlaw1_known.f
  rw [next_eq _ (Byt.cons (by decide) (by decide) (Byt.cons (by decide) (by decide) Byt.nil)), show nx [195, 169] = (233, 2) by decide]
  rfl
end Go.Proofs.Yteomjicmlaglbaa.Pure
