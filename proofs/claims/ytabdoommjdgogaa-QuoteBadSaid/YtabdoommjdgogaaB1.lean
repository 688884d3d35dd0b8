/- Bytes, signs and whole numbers: small facts, and how a sign is written. -/
import Derived.Test.YtabdoommjdgogaaQcorrectorref1
import Derived.Laws.BitsLemmas
namespace Go.Proofs.Ytabdoommjdgogaa.Pure
open Go.RowKit Go.Proofs.Ytabdoommjdgogaa.Q Go.Proofs.YtabdoommjdgogaaW.PrintWords Go.Proofs.YtabdoommjdgogaaW.PrintLast
set_option linter.unusedVariables false
set_option linter.unusedSimpArgs false

/-- Numbers that are bytes. -/
def Byt (l : List Int) : Prop := ∀ x ∈ l, 0 ≤ x ∧ x ≤ 255
theorem Byt.of_wf {l : List Int} (h : ∀ x ∈ l, (Lit.int .u8 x).wf = true) : Byt l := fun x hx => by
  have := h x hx
  simp [Lit.wf, IntKind.min, IntKind.max, IntKind.signed, IntKind.bits] at this
  omega
theorem Byt.rd {l : List Int} (h : Byt l) (i : Int) : 0 ≤ rd l i ∧ rd l i ≤ 255 := by
  unfold Go.Proofs.YtabdoommjdgogaaW.PrintWords.rd
  by_cases hi : i.toNat < l.length
  · rw [List.getD_eq_getElem?_getD, List.getElem?_eq_getElem hi]
    exact h _ (List.getElem_mem hi)
  · rw [List.getD_eq_getElem?_getD, List.getElem?_eq_none (by omega)]
    simp
theorem Byt.take {l : List Int} (h : Byt l) (n : Nat) : Byt (l.take n) := fun x hx => h x (List.mem_of_mem_take hx)
theorem Byt.drop {l : List Int} (h : Byt l) (n : Nat) : Byt (l.drop n) := fun x hx => h x (List.mem_of_mem_drop hx)
theorem Byt.append {l m : List Int} (h : Byt l) (k : Byt m) : Byt (l ++ m) := fun x hx => by
  rcases List.mem_append.1 hx with h1 | h1
  · exact h x h1
  · exact k x h1
theorem Byt.nil : Byt [] := fun x hx => by cases hx
theorem Byt.cons {a : Int} {l : List Int} (h0 : 0 ≤ a) (h1 : a ≤ 255) (k : Byt l) : Byt (a :: l) := fun x hx => by
  rcases List.mem_cons.1 hx with rfl | h2
  · exact ⟨h0, h1⟩
  · exact k x h2

/-- A sign of the language. -/
def Sgn (r : Int) : Prop := 0 ≤ r ∧ r ≤ 1114111 ∧ ¬ (55296 ≤ r ∧ r ≤ 57343)
/-- It, written in UTF-8. -/
def wr (r : Int) : List Int :=
  if r < 128 then [r] else if r < 2048 then [192 + r / 64, 128 + r % 64] else if r < 65536 then [224 + r / 4096, 128 + r / 64 % 64, 128 + r % 64]
  else [240 + r / 262144, 128 + r / 4096 % 64, 128 + r / 64 % 64, 128 + r % 64]
theorem i32_and63 (x : Int) (h0 : 0 ≤ x) (h1 : x < 2147483648) : Go.bits .and .i32 x 63 = x % 64 := bits_mask .i32 31 (by decide) wraps_i32 6 (by decide) x h0 (by simpa using h1)
theorem i32_or7 (x y : Int) (hx0 : 0 ≤ x) (hx : x % 128 = 0) (hx1 : x < 2147483648) (h0 : 0 ≤ y) (h1 : y < 128) : Go.bits .or .i32 x y = x + y :=
  bits_join .i32 31 (by decide) wraps_i32 7 x y hx0 (by simpa using hx) (by simpa using hx1) h0 (by simpa using h1) (by simp; omega)
theorem i32_or5 (x y : Int) (hx0 : 0 ≤ x) (hx : x % 32 = 0) (hx1 : x < 2147483648) (h0 : 0 ≤ y) (h1 : y < 32) : Go.bits .or .i32 x y = x + y :=
  bits_join .i32 31 (by decide) wraps_i32 5 x y hx0 (by simpa using hx) (by simpa using hx1) h0 (by simpa using h1) (by simp; omega)
theorem i32_or4 (x y : Int) (hx0 : 0 ≤ x) (hx : x % 16 = 0) (hx1 : x < 2147483648) (h0 : 0 ≤ y) (h1 : y < 16) : Go.bits .or .i32 x y = x + y :=
  bits_join .i32 31 (by decide) wraps_i32 4 x y hx0 (by simpa using hx) (by simpa using hx1) h0 (by simpa using h1) (by simp; omega)
theorem write_eq (r : Int) (h0 : 0 ≤ r) (h1 : r ≤ 1114111) : correctorref1_Write.f r = some (wr r) := by
  unfold correctorref1_Write.f wr
  by_cases a : r < 128
  · rw [if_pos a, if_pos a, show r % 256 = r by omega]
  rw [if_neg a, if_neg a]
  by_cases b : r < 2048
  · rw [if_pos b, if_pos b, i32_and63 r h0 (by omega), i32_or5 192 _ (by omega) (by decide) (by omega) (by omega) (by omega), i32_or6 128 _ (by omega) (by decide) (by omega) (by omega) (by omega), show (192 + r / 64) % 256 = 192 + r / 64 by omega, show (128 + r % 64) % 256 = 128 + r % 64 by omega]
  rw [if_neg b, if_neg b]
  by_cases c : r < 65536
  · rw [if_pos c, if_pos c, i32_and63 r h0 (by omega), i32_and63 (r / 64) (by omega) (by omega), i32_or4 224 _ (by omega) (by decide) (by omega) (by omega) (by omega), i32_or6 128 (r / 64 % 64) (by omega) (by decide) (by omega) (by omega) (by omega), i32_or6 128 (r % 64) (by omega) (by decide) (by omega) (by omega) (by omega), show (224 + r / 4096) % 256 = 224 + r / 4096 by omega, show (128 + r / 64 % 64) % 256 = 128 + r / 64 % 64 by omega, show (128 + r % 64) % 256 = 128 + r % 64 by omega]
  · rw [if_neg c, if_neg c, i32_and63 r h0 (by omega), i32_and63 (r / 64) (by omega) (by omega), i32_and63 (r / 4096) (by omega) (by omega), i32_or4 240 _ (by omega) (by decide) (by omega) (by omega) (by omega), i32_or6 128 (r / 4096 % 64) (by omega) (by decide) (by omega) (by omega) (by omega), i32_or6 128 (r / 64 % 64) (by omega) (by decide) (by omega) (by omega) (by omega), i32_or6 128 (r % 64) (by omega) (by decide) (by omega) (by omega) (by omega), show (240 + r / 262144) % 256 = 240 + r / 262144 by omega, show (128 + r / 4096 % 64) % 256 = 128 + r / 4096 % 64 by omega, show (128 + r / 64 % 64) % 256 = 128 + r / 64 % 64 by omega, show (128 + r % 64) % 256 = 128 + r % 64 by omega]
theorem wr_byt (r : Int) (h0 : 0 ≤ r) (h1 : r ≤ 1114111) : Byt (wr r) := by
  intro x hx
  unfold wr at hx
  split at hx
  · simp at hx; omega
  split at hx
  · simp at hx; omega
  split at hx
  · simp at hx; omega
  · simp at hx; omega
theorem wr_len (r : Int) : 1 ≤ (wr r).length ∧ (wr r).length ≤ 4 := by
  unfold wr
  split
  · simp
  split
  · simp
  split
  · simp
  · simp
theorem wf_i32 {a : Int} (h : (Lit.int .i32 a).wf = true) : -2147483648 ≤ a ∧ a ≤ 2147483647 := by
  simp [Lit.wf, IntKind.min, IntKind.max, IntKind.signed, IntKind.bits] at h
  omega
theorem wf_i64 {a : Int} (h : (Lit.int .i64 a).wf = true) : -9223372036854775808 ≤ a ∧ a ≤ 9223372036854775807 := by
  simp [Lit.wf, IntKind.min, IntKind.max, IntKind.signed, IntKind.bits] at h
  omega
theorem wf_u8 {a : Int} (h : (Lit.int .u8 a).wf = true) : 0 ≤ a ∧ a ≤ 255 := by
  simp [Lit.wf, IntKind.min, IntKind.max, IntKind.signed, IntKind.bits] at h
  omega
theorem w64 {x : Int} (h0 : -9223372036854775808 ≤ x) (h1 : x ≤ 9223372036854775807) : wrap64 x = x := by unfold wrap64; omega
theorem w32 {x : Int} (h0 : -2147483648 ≤ x) (h1 : x ≤ 2147483647) : wrap32 x = x := by unfold wrap32; omega
/-- A sign's bytes, as a text. -/
theorem text_wr (r : Int) (hr : Sgn r) : strOfNums (wr r) = Utf8.encode r := by
  obtain ⟨h0, h1, h2⟩ := hr
  obtain ⟨n, rfl⟩ : ∃ n : Nat, r = (n : Int) := ⟨r.toNat, by omega⟩
  have hv : Utf8.valid (n : Int) = true := by unfold Utf8.valid; simp; omega
  unfold Utf8.encode wr strOfNums
  simp only [hv, if_true, Int.toNat_natCast]
  by_cases a : n < 128
  · rw [if_pos (show (n : Int) < 128 by omega), if_pos a]
    rfl
  rw [if_neg (show ¬ (n : Int) < 128 by omega), if_neg a]
  by_cases b : n < 2048
  · rw [if_pos (show (n : Int) < 2048 by omega), if_pos b]
    simp only [List.map_cons, List.map_nil]
    rw [show (192 + (n : Int) / 64).toNat = 192 + n / 64 by omega, show (128 + (n : Int) % 64).toNat = 128 + n % 64 by omega]
  rw [if_neg (show ¬ (n : Int) < 2048 by omega), if_neg b]
  by_cases c : n < 65536
  · rw [if_pos (show (n : Int) < 65536 by omega), if_pos c]
    simp only [List.map_cons, List.map_nil]
    rw [show (224 + (n : Int) / 4096).toNat = 224 + n / 4096 by omega, show (128 + (n : Int) / 64 % 64).toNat = 128 + n / 64 % 64 by omega, show (128 + (n : Int) % 64).toNat = 128 + n % 64 by omega]
  · rw [if_neg (show ¬ (n : Int) < 65536 by omega), if_neg c]
    simp only [List.map_cons, List.map_nil]
    rw [show (240 + (n : Int) / 262144).toNat = 240 + n / 262144 by omega, show (128 + (n : Int) / 4096 % 64).toNat = 128 + n / 4096 % 64 by omega, show (128 + (n : Int) / 64 % 64).toNat = 128 + n / 64 % 64 by omega, show (128 + (n : Int) % 64).toNat = 128 + n % 64 by omega]
end Go.Proofs.Ytabdoommjdgogaa.Pure
