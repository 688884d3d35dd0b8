/- Bytes, signs and whole numbers: small facts, and how a sign is written. -/
import Derived.Test.YtabdoommjdgogaaQcorrectorref1
import Derived.Laws.BitsLemmas
import Derived.Test.YtabdoommjdgogaaQchars
import Derived.Test.YtabdoommjdgogaaQcorrectorref5
namespace Go.Proofs.Ytabdoommjdgogaa.Pure
open Go.RowKit Go.Proofs.Ytabdoommjdgogaa.Q Go.Proofs.YtabdoommjdgogaaW.PrintWords Go.Proofs.YtabdoommjdgogaaW.PrintLast
set_option linter.unusedVariables false
set_option linter.unusedSimpArgs false

/-- Numbers that are bytes. -/
def Byt (l : List Int) : Prop := ∀ x ∈ l, 0 ≤ x ∧ x ≤ 255
theorem Byt.of_wf {l : List Int} (h : ∀ x ∈ l, (Lit.int .u8 x).wf = true) : Byt l := fun x hx => by
  have := h x hx
  simp [Lit.wf, IntKind.min, IntKind.max, IntKind.signed, IntKind.bits] at this
  omega
theorem Byt.rd {l : List Int} (h : Byt l) (i : Int) : 0 ≤ rd l i ∧ rd l i ≤ 255 := by
  unfold Go.Proofs.YtabdoommjdgogaaW.PrintWords.rd
  by_cases hi : i.toNat < l.length
  · rw [List.getD_eq_getElem?_getD, List.getElem?_eq_getElem hi]
    exact h _ (List.getElem_mem hi)
  · rw [List.getD_eq_getElem?_getD, List.getElem?_eq_none (by omega)]
    simp
theorem Byt.take {l : List Int} (h : Byt l) (n : Nat) : Byt (l.take n) := fun x hx => h x (List.mem_of_mem_take hx)
theorem Byt.drop {l : List Int} (h : Byt l) (n : Nat) : Byt (l.drop n) := fun x hx => h x (List.mem_of_mem_drop hx)
theorem Byt.append {l m : List Int} (h : Byt l) (k : Byt m) : Byt (l ++ m) := fun x hx => by
  rcases List.mem_append.1 hx with h1 | h1
  · exact h x h1
  · exact k x h1
theorem Byt.nil : Byt [] := fun x hx => by cases hx
theorem Byt.cons {a : Int} {l : List Int} (h0 : 0 ≤ a) (h1 : a ≤ 255) (k : Byt l) : Byt (a :: l) := fun x hx => by
  rcases List.mem_cons.1 hx with rfl | h2
  · exact ⟨h0, h1⟩
  · exact k x h2

/-- A sign of the language. -/
def Sgn (r : Int) : Prop := 0 ≤ r ∧ r ≤ 1114111 ∧ ¬ (55296 ≤ r ∧ r ≤ 57343)
/-- It, written in UTF-8. -/
def wr (r : Int) : List Int :=
  if r < 128 then [r] else if r < 2048 then [192 + r / 64, 128 + r % 64] else if r < 65536 then [224 + r / 4096, 128 + r / 64 % 64, 128 + r % 64]
  else [240 + r / 262144, 128 + r / 4096 % 64, 128 + r / 64 % 64, 128 + r % 64]
theorem i32_and63 (x : Int) (h0 : 0 ≤ x) (h1 : x < 2147483648) : Go.bits .and .i32 x 63 = x % 64 := bits_mask .i32 31 (by decide) wraps_i32 6 (by decide) x h0 (by simpa using h1)
theorem i32_or7 (x y : Int) (hx0 : 0 ≤ x) (hx : x % 128 = 0) (hx1 : x < 2147483648) (h0 : 0 ≤ y) (h1 : y < 128) : Go.bits .or .i32 x y = x + y :=
  bits_join .i32 31 (by decide) wraps_i32 7 x y hx0 (by simpa using hx) (by simpa using hx1) h0 (by simpa using h1) (by simp; omega)
theorem i32_or5 (x y : Int) (hx0 : 0 ≤ x) (hx : x % 32 = 0) (hx1 : x < 2147483648) (h0 : 0 ≤ y) (h1 : y < 32) : Go.bits .or .i32 x y = x + y :=
  bits_join .i32 31 (by decide) wraps_i32 5 x y hx0 (by simpa using hx) (by simpa using hx1) h0 (by simpa using h1) (by simp; omega)
theorem i32_or4 (x y : Int) (hx0 : 0 ≤ x) (hx : x % 16 = 0) (hx1 : x < 2147483648) (h0 : 0 ≤ y) (h1 : y < 16) : Go.bits .or .i32 x y = x + y :=
  bits_join .i32 31 (by decide) wraps_i32 4 x y hx0 (by simpa using hx) (by simpa using hx1) h0 (by simpa using h1) (by simp; omega)
theorem write_eq (r : Int) (h0 : 0 ≤ r) (h1 : r ≤ 1114111) : correctorref1_Write.f r = some (wr r) := by
  unfold correctorref1_Write.f wr
  by_cases a : r < 128
  · rw [if_pos a, if_pos a, show r % 256 = r by omega]
  rw [if_neg a, if_neg a]
  by_cases b : r < 2048
  · rw [if_pos b, if_pos b, i32_and63 r h0 (by omega), i32_or5 192 _ (by omega) (by decide) (by omega) (by omega) (by omega), i32_or6 128 _ (by omega) (by decide) (by omega) (by omega) (by omega), show (192 + r / 64) % 256 = 192 + r / 64 by omega, show (128 + r % 64) % 256 = 128 + r % 64 by omega]
  rw [if_neg b, if_neg b]
  by_cases c : r < 65536
  · rw [if_pos c, if_pos c, i32_and63 r h0 (by omega), i32_and63 (r / 64) (by omega) (by omega), i32_or4 224 _ (by omega) (by decide) (by omega) (by omega) (by omega), i32_or6 128 (r / 64 % 64) (by omega) (by decide) (by omega) (by omega) (by omega), i32_or6 128 (r % 64) (by omega) (by decide) (by omega) (by omega) (by omega), show (224 + r / 4096) % 256 = 224 + r / 4096 by omega, show (128 + r / 64 % 64) % 256 = 128 + r / 64 % 64 by omega, show (128 + r % 64) % 256 = 128 + r % 64 by omega]
  · rw [if_neg c, if_neg c, i32_and63 r h0 (by omega), i32_and63 (r / 64) (by omega) (by omega), i32_and63 (r / 4096) (by omega) (by omega), i32_or4 240 _ (by omega) (by decide) (by omega) (by omega) (by omega), i32_or6 128 (r / 4096 % 64) (by omega) (by decide) (by omega) (by omega) (by omega), i32_or6 128 (r / 64 % 64) (by omega) (by decide) (by omega) (by omega) (by omega), i32_or6 128 (r % 64) (by omega) (by decide) (by omega) (by omega) (by omega), show (240 + r / 262144) % 256 = 240 + r / 262144 by omega, show (128 + r / 4096 % 64) % 256 = 128 + r / 4096 % 64 by omega, show (128 + r / 64 % 64) % 256 = 128 + r / 64 % 64 by omega, show (128 + r % 64) % 256 = 128 + r % 64 by omega]
theorem wr_byt (r : Int) (h0 : 0 ≤ r) (h1 : r ≤ 1114111) : Byt (wr r) := by
  intro x hx
  unfold wr at hx
  split at hx
  · simp at hx; omega
  split at hx
  · simp at hx; omega
  split at hx
  · simp at hx; omega
  · simp at hx; omega
theorem wr_len (r : Int) : 1 ≤ (wr r).length ∧ (wr r).length ≤ 4 := by
  unfold wr
  split
  · simp
  split
  · simp
  split
  · simp
  · simp
theorem wf_i32 {a : Int} (h : (Lit.int .i32 a).wf = true) : -2147483648 ≤ a ∧ a ≤ 2147483647 := by
  simp [Lit.wf, IntKind.min, IntKind.max, IntKind.signed, IntKind.bits] at h
  omega
theorem wf_i64 {a : Int} (h : (Lit.int .i64 a).wf = true) : -9223372036854775808 ≤ a ∧ a ≤ 9223372036854775807 := by
  simp [Lit.wf, IntKind.min, IntKind.max, IntKind.signed, IntKind.bits] at h
  omega
theorem wf_u8 {a : Int} (h : (Lit.int .u8 a).wf = true) : 0 ≤ a ∧ a ≤ 255 := by
  simp [Lit.wf, IntKind.min, IntKind.max, IntKind.signed, IntKind.bits] at h
  omega
theorem w64 {x : Int} (h0 : -9223372036854775808 ≤ x) (h1 : x ≤ 9223372036854775807) : wrap64 x = x := by unfold wrap64; omega
theorem w32 {x : Int} (h0 : -2147483648 ≤ x) (h1 : x ≤ 2147483647) : wrap32 x = x := by unfold wrap32; omega
/-- A sign's bytes, as a text. -/
theorem text_wr (r : Int) (hr : Sgn r) : strOfNums (wr r) = Utf8.encode r := by
  obtain ⟨h0, h1, h2⟩ := hr
  obtain ⟨n, rfl⟩ : ∃ n : Nat, r = (n : Int) := ⟨r.toNat, by omega⟩
  have hv : Utf8.valid (n : Int) = true := by unfold Utf8.valid; simp; omega
  unfold Utf8.encode wr strOfNums
  simp only [hv, if_true, Int.toNat_natCast]
  by_cases a : n < 128
  · rw [if_pos (show (n : Int) < 128 by omega), if_pos a]
    rfl
  rw [if_neg (show ¬ (n : Int) < 128 by omega), if_neg a]
  by_cases b : n < 2048
  · rw [if_pos (show (n : Int) < 2048 by omega), if_pos b]
    simp only [List.map_cons, List.map_nil]
    rw [show (192 + (n : Int) / 64).toNat = 192 + n / 64 by omega, show (128 + (n : Int) % 64).toNat = 128 + n % 64 by omega]
  rw [if_neg (show ¬ (n : Int) < 2048 by omega), if_neg b]
  by_cases c : n < 65536
  · rw [if_pos (show (n : Int) < 65536 by omega), if_pos c]
    simp only [List.map_cons, List.map_nil]
    rw [show (224 + (n : Int) / 4096).toNat = 224 + n / 4096 by omega, show (128 + (n : Int) / 64 % 64).toNat = 128 + n / 64 % 64 by omega, show (128 + (n : Int) % 64).toNat = 128 + n % 64 by omega]
  · rw [if_neg (show ¬ (n : Int) < 65536 by omega), if_neg c]
    simp only [List.map_cons, List.map_nil]
    rw [show (240 + (n : Int) / 262144).toNat = 240 + n / 262144 by omega, show (128 + (n : Int) / 4096 % 64).toNat = 128 + n / 4096 % 64 by omega, show (128 + (n : Int) / 64 % 64).toNat = 128 + n / 64 % 64 by omega, show (128 + (n : Int) % 64).toNat = 128 + n % 64 by omega]
end Go.Proofs.Ytabdoommjdgogaa.Pure
/- What an escape says: plain, and that chars.Escape and the reference's Escape both answer it, at every text. -/
namespace Go.Proofs.Ytabdoommjdgogaa.Pure
open Go.RowKit Go.Proofs.Ytabdoommjdgogaa.Q Go.Proofs.YtabdoommjdgogaaW.PrintWords Go.Proofs.YtabdoommjdgogaaW.PrintLast
set_option linter.unusedVariables false
set_option linter.unusedSimpArgs false

/-- A digit of sixteen; -1: none. -/
def hexd (c : Int) : Int := if 48 ≤ c ∧ c ≤ 57 then c - 48 else if 97 ≤ c ∧ c ≤ 102 then c - 87 else if 65 ≤ c ∧ c ≤ 70 then c - 55 else -1
theorem hexd_range (c : Int) : -1 ≤ hexd c ∧ hexd c ≤ 15 := by unfold hexd; repeat' split <;> omega
/-- n digits from place p on, after the number v; -1: they are none. -/
def hexv (s : ByteArray) : Nat → Int → Int → Int
  | 0, _, v => v
  | n + 1, p, v => if hexd (bt s p) < 0 then -1 else hexv s n (p + 1) (16 * v + hexd (bt s p))
/-- What one sign behind a backslash says. -/
def simp1 (c : Int) : Option ByteArray :=
  if c = 48 then some ⟨#[0]⟩ else if c = 116 then some ⟨#[9]⟩ else if c = 110 then some ⟨#[10]⟩ else if c = 114 then some ⟨#[13]⟩ else if c = 101 then some ⟨#[27]⟩
  else if c = 34 ∨ c = 47 ∨ c = 92 ∨ c = 32 then some (Utf8.encode c) else none
def digs (c : Int) : Nat := if c = 120 then 2 else if c = 117 then 4 else if c = 85 then 8 else 0
theorem digs_cases (c : Int) : digs c = 0 ∨ digs c = 2 ∨ digs c = 4 ∨ digs c = 8 := by
  unfold digs
  repeat' split
  all_goals omega
/-- What an escape says, and how many bytes it has. -/
def esc (s : ByteArray) : ByteArray × Int :=
  if s.size < 2 ∨ bt s 0 ≠ 92 then (⟨#[]⟩, 0)
  else match simp1 (bt s 1) with
    | some t => (t, 2)
    | none => if digs (bt s 1) = 0 ∨ s.size < 2 + digs (bt s 1) then (⟨#[]⟩, 0)
      else if hexv s (digs (bt s 1)) 2 0 < 0 ∨ hexv s (digs (bt s 1)) 2 0 > 1114111 ∨ (55296 ≤ hexv s (digs (bt s 1)) 2 0 ∧ hexv s (digs (bt s 1)) 2 0 ≤ 57343) then (⟨#[]⟩, 0)
      else (Utf8.encode (hexv s (digs (bt s 1)) 2 0), 2 + (digs (bt s 1) : Int))

/-! ### Places of a text -/
theorem bt_get (s : ByteArray) (i : Nat) : bt s (i : Int) = ((s.get! i).toNat : Int) := by
  unfold Go.Proofs.YtabdoommjdgogaaW.PrintWords.bt
  rw [Int.toNat_natCast]
  by_cases h : i < s.size
  · rw [dif_pos h]
    show _ = ((s.data[i]!).toNat : Int)
    rw [getElem!_pos s.data i h]
    rfl
  · rw [dif_neg h]
    show _ = ((s.data[i]!).toNat : Int)
    rw [getElem!_neg s.data i h]
    rfl
theorem rune_low (s : ByteArray) (p : Nat) (h : p < s.size) (hb : bt s (p : Int) < 128) : rdRune s (p : Int) = bt s (p : Int) ∧ rdNext s (p : Int) = ((p + 1 : Nat) : Int) := by
  rw [bt_get] at *
  unfold rdRune rdNext Utf8.decode
  rw [Int.toNat_natCast]
  simp only [Nat.add_zero]
  rw [if_pos (by omega)]
  exact ⟨rfl, rfl⟩
theorem rune_high (s : ByteArray) (p : Nat) (h : p < s.size) (hb : 128 ≤ bt s (p : Int)) : 128 ≤ rdRune s (p : Int) := by
  rw [bt_get] at *
  unfold rdRune Utf8.decode
  rw [Int.toNat_natCast]
  simp only [Nat.add_zero]
  rw [if_neg (by omega)]
  have e : (65533 : Nat) = Utf8.runeError := rfl
  split
  · split
    · rename_i h1; simp only; omega
    · simp [Utf8.runeError]
  split
  · split
    · rename_i h1; simp only [Bool.and_eq_true, decide_eq_true_eq] at h1; simp only; omega
    · simp [Utf8.runeError]
  split
  · split
    · rename_i h1; simp only [Bool.and_eq_true, decide_eq_true_eq] at h1; simp only; omega
    · simp [Utf8.runeError]
  · simp [Utf8.runeError]
theorem bt_extract (s : ByteArray) (a b : Nat) (hb : b ≤ s.size) (p : Nat) (h : a + p < b) : bt (s.extract a b) (p : Int) = bt s ((a + p : Nat) : Int) := by
  unfold Go.Proofs.YtabdoommjdgogaaW.PrintWords.bt
  rw [Int.toNat_natCast, Int.toNat_natCast]
  have hs : (s.extract a b).size = b - a := by rw [ByteArray.size_extract]; omega
  rw [dif_pos (by omega), dif_pos (by omega), ByteArray.getElem_extract]

/-! ### chars -/
theorem index_plain : ∀ n : Nat, n < 256 → ((0 ≤ Lib.indexByte [34, 47, 92, 32] n.toUInt8) ↔ (n = 34 ∨ n = 47 ∨ n = 92 ∨ n = 32)) := by decide +kernel
theorem plain_eq (c : Int) (h0 : 0 ≤ c) (h1 : c ≤ 255) : chars_plain.f c = some (match simp1 c with | some t => (t, true) | none => (⟨#[]⟩, false)) := by
  unfold chars_plain.f simp1
  by_cases a : c = 48
  · rw [if_pos a, if_pos a]
  rw [if_neg a, if_neg a]
  by_cases b : c = 116
  · rw [if_pos b, if_pos b]
  rw [if_neg b, if_neg b]
  by_cases d : c = 110
  · rw [if_pos d, if_pos d]
  rw [if_neg d, if_neg d]
  by_cases e : c = 114
  · rw [if_pos e, if_pos e]
  rw [if_neg e, if_neg e]
  by_cases f : c = 101
  · rw [if_pos f, if_pos f]
  rw [if_neg f, if_neg f]
  have hi := index_plain c.toNat (by omega)
  unfold strings_IndexByte.f stringslite_IndexByte.f
  simp only [Option.bind_some]
  show (if Lib.indexByte [34, 47, 92, 32] c.toNat.toUInt8 ≥ 0 then _ else _) = _
  by_cases g : c = 34 ∨ c = 47 ∨ c = 92 ∨ c = 32
  · rw [if_pos (hi.2 (by omega)), if_pos g, w32 (by omega) (by omega)]
  · rw [if_neg (fun h => g (by have := hi.1 h; omega)), if_neg g]
theorem digits_eq (c : Int) : chars_digits.f c = some (digs c : Int) := by
  unfold chars_digits.f digs
  repeat' split
  all_goals rfl
theorem pow16 : ∀ p : Nat, p ≤ 8 → (16 : Int) ^ p ≤ 4294967296 := by decide
theorem number_loop (s : ByteArray) (a b : Nat) (hb : b ≤ s.size) (hab : b ≤ a + 8) (n : Nat) : ∀ (k p : Nat) (v : Int), a + p + n = b → 3 * n < k → 0 ≤ v → v < 16 ^ p →
    chars_number.l0 k v (s.extract a b) (p : Int) = some (hexv s n ((a + p : Nat) : Int) v) := by
  have hs : (s.extract a b).size = b - a := by rw [ByteArray.size_extract]; omega
  induction n with
  | zero =>
    intro k p v hn hk h0 h1
    obtain ⟨k, rfl⟩ : ∃ m, k = m + 1 := ⟨k - 1, by omega⟩
    rw [chars_number.l0, if_pos (by omega), if_neg (by omega)]
    rfl
  | succ n ih =>
    intro k p v hn hk h0 h1
    obtain ⟨k, rfl⟩ : ∃ m, k = m + 3 := ⟨k - 3, by omega⟩
    have hq := pow16 p (by omega)
    have hq1 : (16 : Int) ^ (p + 1) = 16 ^ p * 16 := Int.pow_succ 16 p
    have hx := bt_extract s a b hb p (by omega)
    have hr := bt_range s ((a + p : Nat) : Int)
    have hd := hexd_range (bt s ((a + p : Nat) : Int))
    generalize (16 : Int) ^ p = q at hq hq1 h1
    rw [chars_number.l0, if_pos (by omega), if_pos (by omega)]
    unfold hexv
    by_cases c : bt s ((a + p : Nat) : Int) < 128
    · obtain ⟨e1, e2⟩ := rune_low (s.extract a b) p (by omega) (by rw [hx]; exact c)
      rw [e1, e2, hx]
      generalize bt s ((a + p : Nat) : Int) = x at *
      have go : ∀ y, hexd x = y → 0 ≤ y → ∀ k, 3 * n < k → chars_number.l0 k (16 * v + y) (s.extract a b) ((p + 1 : Nat) : Int) = some (hexv s n (((a + p : Nat) : Int) + 1) (16 * v + y)) := by
        intro y hy hy0 k hk
        rw [show ((a + p : Nat) : Int) + 1 = ((a + (p + 1) : Nat) : Int) by omega]
        exact ih k (p + 1) (16 * v + y) (by omega) hk (by omega) (by rw [hq1]; omega)
      by_cases d1 : 48 ≤ x ∧ x ≤ 57
      · have hh : hexd x = x - 48 := by unfold hexd; rw [if_pos d1]
        rw [if_pos (by omega), decide_eq_true (by omega), chars_number.j1, if_pos rfl, if_neg (by omega), w32 (by omega) (by omega), w64 (x := x - 48) (by omega) (by omega), w64 (x := 16 * v) (by omega) (by omega), w64 (by omega) (by omega), hh]
        exact go _ hh (by omega) _ (by omega)
      have st : (if x ≥ 48 then chars_number.j1 (k + 2) v x (decide (x ≤ 57)) (s.extract a b) ((p + 1 : Nat) : Int) else chars_number.j1 (k + 2) v x false (s.extract a b) ((p + 1 : Nat) : Int)) = chars_number.j1 (k + 2) v x false (s.extract a b) ((p + 1 : Nat) : Int) := by
        by_cases h : x ≥ 48
        · rw [if_pos h, decide_eq_false (by omega)]
        · rw [if_neg h]
      rw [st, chars_number.j1, if_neg Bool.false_ne_true]
      by_cases d2 : 97 ≤ x ∧ x ≤ 102
      · have hh : hexd x = x - 87 := by unfold hexd; rw [if_neg d1, if_pos d2]
        rw [if_pos (by omega), decide_eq_true (by omega), chars_number.j2, if_pos rfl, if_neg (by omega), w32 (by omega) (by omega), w64 (x := x - 97) (by omega) (by omega), w64 (x := 16 * v) (by omega) (by omega), w64 (x := 16 * v + (x - 97)) (by omega) (by omega), w64 (by omega) (by omega), hh, show 16 * v + (x - 97) + 10 = 16 * v + (x - 87) by omega]
        exact go _ hh (by omega) _ (by omega)
      have st2 : (if x ≥ 97 then chars_number.j2 (k + 1) v x (decide (x ≤ 102)) (s.extract a b) ((p + 1 : Nat) : Int) else chars_number.j2 (k + 1) v x false (s.extract a b) ((p + 1 : Nat) : Int)) = chars_number.j2 (k + 1) v x false (s.extract a b) ((p + 1 : Nat) : Int) := by
        by_cases h : x ≥ 97
        · rw [if_pos h, decide_eq_false (by omega)]
        · rw [if_neg h]
      rw [st2, chars_number.j2, if_neg Bool.false_ne_true]
      by_cases d3 : 65 ≤ x ∧ x ≤ 70
      · have hh : hexd x = x - 55 := by unfold hexd; rw [if_neg d1, if_neg d2, if_pos d3]
        rw [if_pos (by omega), if_pos (by omega), if_neg (by omega), w32 (by omega) (by omega), w64 (x := x - 65) (by omega) (by omega), w64 (x := 16 * v) (by omega) (by omega), w64 (x := 16 * v + (x - 65)) (by omega) (by omega), w64 (by omega) (by omega), hh, show 16 * v + (x - 65) + 10 = 16 * v + (x - 55) by omega]
        exact go _ hh (by omega) _ (by omega)
      have hh : hexd x = -1 := by unfold hexd; rw [if_neg d1, if_neg d2, if_neg d3]
      rw [hh, if_pos (show (-1 : Int) < 0 by decide)]
      by_cases h : x ≥ 65
      · rw [if_pos h, if_neg (by omega)]
      · rw [if_neg h]
    · have e1 := rune_high (s.extract a b) p (by omega) (by rw [hx]; omega)
      generalize rdRune (s.extract a b) (p : Int) = x at *
      have hh : hexd (bt s ((a + p : Nat) : Int)) = -1 := by unfold hexd; rw [if_neg (by omega), if_neg (by omega), if_neg (by omega)]
      rw [hh, if_pos (by omega), decide_eq_false (by omega), chars_number.j1, if_neg Bool.false_ne_true, if_pos (by omega), decide_eq_false (by omega), chars_number.j2, if_neg Bool.false_ne_true, if_pos (by omega), if_neg (by omega), if_pos (by decide)]
theorem hexv_range (s : ByteArray) (n : Nat) : ∀ (p v : Int) (m : Nat), 0 ≤ v → v < 16 ^ m → n + m ≤ 8 → -1 ≤ hexv s n p v ∧ hexv s n p v < 4294967296 := by
  induction n with
  | zero =>
    intro p v m h0 h1 hm
    have := pow16 m (by omega)
    unfold hexv
    omega
  | succ n ih =>
    intro p v m h0 h1 hm
    unfold hexv
    have hd := hexd_range (bt s p)
    by_cases c : hexd (bt s p) < 0
    · rw [if_pos c]; omega
    · rw [if_neg c]
      refine ih _ _ (m + 1) (by omega) ?_ (by omega)
      rw [Int.pow_succ]
      omega
theorem valid_eq (k : Nat) (v : Int) (h0 : 0 ≤ v) (h1 : v ≤ 1114111) : utf8_ValidRune.f (k + 1) v = some (decide (¬ (55296 ≤ v ∧ v ≤ 57343))) := by
  unfold utf8_ValidRune.f
  rw [if_pos h0, utf8_ValidRune.j0]
  by_cases a : v < 55296
  · rw [decide_eq_true a, if_pos rfl, decide_eq_true (by omega)]
  rw [decide_eq_false a, if_neg Bool.false_ne_true]
  by_cases b : 57343 < v
  · rw [if_pos b, if_pos h1, decide_eq_true (by omega)]
  · rw [if_neg b, decide_eq_false (by omega)]
theorem escape_eq (k : Nat) (hk : 30 < k) (s : ByteArray) : chars_Escape.f k s = some (esc s) := by
  obtain ⟨k, rfl⟩ : ∃ m, k = m + 3 := ⟨k - 3, by omega⟩
  have hr := bt_range s 1
  have start : chars_Escape.f (k + 3) s = chars_Escape.j0 (k + 3) s (decide (s.size < 2 ∨ bt s 0 ≠ 92)) := by
    unfold chars_Escape.f
    by_cases a : s.size < 2
    · rw [if_pos (by omega), decide_eq_true (.inl a)]
    · rw [if_neg (by omega), if_pos (by omega)]
      by_cases b : bt s 0 = 92
      · rw [decide_eq_false (by rintro (h | h); exact a h; exact h b), b]; rfl
      · rw [decide_eq_true (.inr b), bne_iff_ne.mpr b]
  rw [start, chars_Escape.j0]
  unfold esc
  by_cases a : s.size < 2 ∨ bt s 0 ≠ 92
  · rw [decide_eq_true a, if_pos rfl, if_pos a]
  rw [decide_eq_false a, if_neg Bool.false_ne_true, if_neg a, if_pos (by omega), plain_eq _ hr.1 hr.2]
  simp only [Option.bind_some]
  cases hp : simp1 (bt s 1) with
  | some t => simp only [if_true]
  | none =>
    simp only
    rw [if_neg Bool.false_ne_true, digits_eq]
    simp only [Option.bind_some]
    have hc := digs_cases (bt s 1)
    generalize digs (bt s 1) = d at *
    have st2 : (if ((d : Nat) : Int) = 0 then chars_Escape.j1 (k + 2) s ((d : Nat) : Int) true else chars_Escape.j1 (k + 2) s ((d : Nat) : Int) (decide ((s.size : Int) < wrap64 (2 + ((d : Nat) : Int))))) = chars_Escape.j1 (k + 2) s ((d : Nat) : Int) (decide (d = 0 ∨ s.size < 2 + d)) := by
      by_cases h : d = 0
      · rw [if_pos (by omega), decide_eq_true (.inl h)]
      · rw [if_neg (by omega), w64 (by omega) (by omega)]
        congr 1
        exact decide_eq_decide.mpr (by omega)
    rw [st2, chars_Escape.j1]
    by_cases b : d = 0 ∨ s.size < 2 + d
    · rw [decide_eq_true b, if_pos rfl, if_pos b]
    rw [decide_eq_false b, if_neg Bool.false_ne_true, if_neg b, w64 (by omega) (by omega), if_pos (by omega), if_pos (by omega), show (2 + ((d : Nat) : Int)).toNat = 2 + d by omega]
    have hl := number_loop s 2 (2 + d) (by omega) (by omega) d (k + 1) 0 0 (by omega) (by omega) (by omega) (by omega)
    have hv := hexv_range s d 2 0 0 (by omega) (by omega) (by omega)
    unfold chars_number.f
    rw [show ((0 : Nat) : Int) = 0 from rfl, show ((2 + 0 : Nat) : Int) = 2 from rfl] at hl
    rw [hl]
    simp only [Option.bind_some]
    generalize hexv s d 2 0 = v at *
    by_cases c : v < 0
    · rw [if_pos c, if_pos (.inl c)]
    rw [if_neg c]
    by_cases e : v > 1114111
    · rw [if_pos e, if_pos (.inr (.inl e))]
    rw [if_neg e, w32 (by omega) (by omega), valid_eq k v (by omega) (by omega)]
    simp only [Option.bind_some]
    by_cases f : 55296 ≤ v ∧ v ≤ 57343
    · rw [decide_eq_false (fun h => h f), if_neg Bool.false_ne_true, if_pos (show v < 0 ∨ v > 1114111 ∨ 55296 ≤ v ∧ v ≤ 57343 by omega)]
    · rw [decide_eq_true f, if_pos rfl, if_neg (show ¬ (v < 0 ∨ v > 1114111 ∨ 55296 ≤ v ∧ v ≤ 57343) by omega)]

/-! ### The reference -/
theorem refhex_eq (k : Nat) (c : Int) (h0 : 0 ≤ c) (h1 : c ≤ 255) : correctorref5_Hex.f (k + 2) c = some (hexd c) := by
  have st : correctorref5_Hex.f (k + 2) c = correctorref5_Hex.j0 (k + 2) c (decide (48 ≤ c ∧ c ≤ 57)) := by
    unfold correctorref5_Hex.f
    by_cases h : c ≥ 48
    · rw [if_pos h]; congr 1; exact decide_eq_decide.mpr (by omega)
    · rw [if_neg h, decide_eq_false (by omega)]
  rw [st, correctorref5_Hex.j0]
  unfold hexd
  by_cases a : 48 ≤ c ∧ c ≤ 57
  · rw [decide_eq_true a, if_pos rfl, if_pos a, show (c - 48) % 256 = c - 48 by omega]
  rw [decide_eq_false a, if_neg Bool.false_ne_true, if_neg a]
  have st2 : (if c ≥ 97 then correctorref5_Hex.j1 (k + 1) c (decide (c ≤ 102)) else correctorref5_Hex.j1 (k + 1) c false) = correctorref5_Hex.j1 (k + 1) c (decide (97 ≤ c ∧ c ≤ 102)) := by
    by_cases h : c ≥ 97
    · rw [if_pos h]; congr 1; exact decide_eq_decide.mpr (by omega)
    · rw [if_neg h, decide_eq_false (by omega)]
  rw [st2, correctorref5_Hex.j1]
  by_cases b : 97 ≤ c ∧ c ≤ 102
  · rw [decide_eq_true b, if_pos rfl, if_pos b, show (c - 97) % 256 + 10 = c - 87 by omega]
  rw [decide_eq_false b, if_neg Bool.false_ne_true, if_neg b]
  by_cases d : 65 ≤ c ∧ c ≤ 70
  · rw [if_pos (by omega), if_pos (by omega), if_pos d, show (c - 65) % 256 + 10 = c - 55 by omega]
  rw [if_neg d]
  by_cases e : c ≥ 65
  · rw [if_pos e, if_neg (by omega)]
  · rw [if_neg e]
theorem refplain_eq (c : Int) : correctorref5_simple.f c = some (match simp1 c with | some t => (t, true) | none => (⟨#[]⟩, false)) := by
  unfold correctorref5_simple.f simp1
  by_cases a : c = 48
  · rw [if_pos a, if_pos a]
  rw [if_neg a, if_neg a]
  by_cases b : c = 116
  · rw [if_pos b, if_pos b]
  rw [if_neg b, if_neg b]
  by_cases d : c = 110
  · rw [if_pos d, if_pos d]
  rw [if_neg d, if_neg d]
  by_cases e : c = 114
  · rw [if_pos e, if_pos e]
  rw [if_neg e, if_neg e]
  by_cases f : c = 101
  · rw [if_pos f, if_pos f]
  rw [if_neg f, if_neg f]
  have key : ∀ x : Int, 0 ≤ x → x < 128 → strOfNums [x] = Utf8.encode x := fun x h0 h1 => by
    have := text_wr x ⟨by omega, by omega, by omega⟩
    unfold wr at this
    rwa [if_pos h1] at this
  by_cases g : c = 34
  · rw [if_pos g, if_pos (.inl g), key c (by omega) (by omega)]
  rw [if_neg g]
  by_cases h : c = 47
  · rw [if_pos h, if_pos (.inr (.inl h)), key c (by omega) (by omega)]
  rw [if_neg h]
  by_cases i : c = 92
  · rw [if_pos i, if_pos (.inr (.inr (.inl i))), key c (by omega) (by omega)]
  rw [if_neg i]
  by_cases j : c = 32
  · rw [if_pos j, if_pos (.inr (.inr (.inr j))), key c (by omega) (by omega)]
  rw [if_neg j, if_neg (by omega)]
theorem ref_loop (s : ByteArray) (d : Nat) (hd : d ≤ 8) (hs : 2 + d ≤ s.size) (n : Nat) : ∀ (k i : Nat) (v : Int), i + n = d → n + 2 < k → 0 ≤ v → v < 16 ^ i →
    correctorref5_Escape.l0 k s (d : Int) v (i : Int) = (if hexv s n ((2 + i : Nat) : Int) v < 0 ∨ hexv s n ((2 + i : Nat) : Int) v > 1114111 ∨ (55296 ≤ hexv s n ((2 + i : Nat) : Int) v ∧ hexv s n ((2 + i : Nat) : Int) v ≤ 57343) then some (⟨#[]⟩, 0)
      else some (Utf8.encode (hexv s n ((2 + i : Nat) : Int) v), 2 + (d : Int))) := by
  induction n with
  | zero =>
    intro k i v hn hk h0 h1
    obtain ⟨k, rfl⟩ : ∃ m, k = m + 1 := ⟨k - 1, by omega⟩
    have hq := pow16 i (by omega)
    rw [correctorref5_Escape.l0, if_neg (by omega)]
    unfold hexv
    by_cases a : v > 1114111
    · rw [if_pos a, if_pos (.inr (.inl a))]
    rw [if_neg a]
    have w : ∀ h : ¬ (55296 ≤ v ∧ v ≤ 57343), ((correctorref1_Write.f (wrap32 v)).bind fun t441 => (some (strOfNums t441, wrap64 (2 + (d : Int))))) = some (Utf8.encode v, 2 + (d : Int)) := fun h => by
      rw [w32 (by omega) (by omega), write_eq v h0 (by omega)]
      simp only [Option.bind_some]
      rw [text_wr v ⟨h0, by omega, h⟩, w64 (by omega) (by omega)]
    by_cases b : 55296 ≤ v ∧ v ≤ 57343
    · rw [if_pos b.1, if_pos b.2, if_pos (.inr (.inr b))]
    · have neg : ¬ (v < 0 ∨ v > 1114111 ∨ 55296 ≤ v ∧ v ≤ 57343) := by omega
      rw [if_neg neg]
      by_cases c : v ≥ 55296
      · rw [if_pos c, if_neg (by omega)]
        exact w b
      · rw [if_neg c]
        exact w b
  | succ n ih =>
    intro k i v hn hk h0 h1
    obtain ⟨k, rfl⟩ : ∃ m, k = m + 3 := ⟨k - 3, by omega⟩
    have hq := pow16 i (by omega)
    have hq1 : (16 : Int) ^ (i + 1) = 16 ^ i * 16 := Int.pow_succ 16 i
    have hr := bt_range s ((2 + i : Nat) : Int)
    have hd2 := hexd_range (bt s ((2 + i : Nat) : Int))
    generalize (16 : Int) ^ i = q at hq hq1 h1
    rw [correctorref5_Escape.l0, if_pos (by omega), w64 (x := 2 + (i : Int)) (by omega) (by omega), if_pos (by omega), if_pos (by omega), show 2 + (i : Int) = ((2 + i : Nat) : Int) by omega, refhex_eq k _ hr.1 hr.2]
    simp only [Option.bind_some]
    unfold hexv
    by_cases c : hexd (bt s ((2 + i : Nat) : Int)) < 0
    · rw [if_pos c, if_pos c, if_pos (.inl (by decide))]
    rw [if_neg c, if_neg c, w64 (x := 16 * v) (by omega) (by omega), w64 (x := 16 * v + _) (by omega) (by omega), w64 (by omega) (by omega), show (i : Int) + 1 = ((i + 1 : Nat) : Int) by omega, ih (k + 2) (i + 1) _ (by omega) (by omega) (by omega) (by rw [hq1]; omega), show ((2 + i : Nat) : Int) + 1 = ((2 + (i + 1) : Nat) : Int) by omega]
theorem refescape_eq (k : Nat) (hk : 30 < k) (s : ByteArray) : correctorref5_Escape.f k s = some (esc s) := by
  obtain ⟨k, rfl⟩ : ∃ m, k = m + 4 := ⟨k - 4, by omega⟩
  have start : correctorref5_Escape.f (k + 4) s = correctorref5_Escape.j0 (k + 4) s (decide (s.size < 2 ∨ bt s 0 ≠ 92)) := by
    unfold correctorref5_Escape.f
    by_cases a : s.size < 2
    · rw [if_pos (by omega), decide_eq_true (.inl a)]
    · rw [if_neg (by omega), if_pos (by omega)]
      by_cases b : bt s 0 = 92
      · rw [decide_eq_false (by rintro (h | h); exact a h; exact h b), b]; rfl
      · rw [decide_eq_true (.inr b), bne_iff_ne.mpr b]
  rw [start, correctorref5_Escape.j0]
  unfold esc
  by_cases a : s.size < 2 ∨ bt s 0 ≠ 92
  · rw [decide_eq_true a, if_pos rfl, if_pos a]
  rw [decide_eq_false a, if_neg Bool.false_ne_true, if_neg a, if_pos (by omega), refplain_eq]
  simp only [Option.bind_some]
  cases hp : simp1 (bt s 1) with
  | some t => simp only [if_true]
  | none =>
    simp only
    rw [if_neg Bool.false_ne_true]
    have st1 : (if bt s 1 = 120 then correctorref5_Escape.j1 (k + 3) s 2 else if bt s 1 = 117 then correctorref5_Escape.j1 (k + 3) s 4 else if bt s 1 = 85 then correctorref5_Escape.j1 (k + 3) s 8 else correctorref5_Escape.j1 (k + 3) s 0) = correctorref5_Escape.j1 (k + 3) s (digs (bt s 1) : Int) := by
      unfold digs
      repeat' split
      all_goals rfl
    rw [st1]
    have hc := digs_cases (bt s 1)
    generalize digs (bt s 1) = d at *
    have st2 : correctorref5_Escape.j1 (k + 3) s (d : Int) = correctorref5_Escape.j2 (k + 2) s (d : Int) (decide (d = 0 ∨ s.size < 2 + d)) := by
      rw [correctorref5_Escape.j1]
      by_cases h : d = 0
      · rw [if_pos (by omega), decide_eq_true (.inl h)]
      · rw [if_neg (by omega), w64 (by omega) (by omega)]
        congr 1
        exact decide_eq_decide.mpr (by omega)
    rw [st2, correctorref5_Escape.j2]
    by_cases b : d = 0 ∨ s.size < 2 + d
    · rw [decide_eq_true b, if_pos rfl, if_pos b]
    rw [decide_eq_false b, if_neg Bool.false_ne_true, if_neg b]
    have := ref_loop s d (by omega) (by omega) d (k + 1) 0 0 (by omega) (by omega) (by omega) (by omega)
    rw [show ((0 : Nat) : Int) = 0 from rfl, show ((2 + 0 : Nat) : Int) = 2 from rfl] at this
    rw [this]
    split <;> rfl
end Go.Proofs.Ytabdoommjdgogaa.Pure
/- Texts as lists of bytes, signs ahead of numbers, and the number of digits: plain. -/
namespace Go.Proofs.Ytabdoommjdgogaa.Pure
open Go.RowKit Go.Proofs.Ytabdoommjdgogaa.Q Go.Proofs.YtabdoommjdgogaaW.PrintWords Go.Proofs.YtabdoommjdgogaaW.PrintLast
set_option linter.unusedVariables false
set_option linter.unusedSimpArgs false
/-- A text's bytes. -/
def bs (s : ByteArray) : List Int := s.data.toList.map fun b => (b.toNat : Int)
theorem size_list (s : ByteArray) : s.data.toList.length = s.size := Array.length_toList
theorem bs_len (s : ByteArray) : (bs s).length = s.size := by rw [← size_list]; exact List.length_map _
theorem bs_byt (s : ByteArray) : Byt (bs s) := fun x hx => by
  unfold bs at hx
  rw [List.mem_map] at hx
  obtain ⟨b, _, rfl⟩ := hx
  have := b.toNat_lt
  omega
theorem bt_bs (s : ByteArray) (i : Int) : bt s i = rd (bs s) i := by
  unfold Go.Proofs.YtabdoommjdgogaaW.PrintWords.bt Go.Proofs.YtabdoommjdgogaaW.PrintWords.rd bs
  rw [List.getD_eq_getElem?_getD, List.getElem?_map]
  by_cases h : i.toNat < s.size
  · rw [dif_pos h, List.getElem?_eq_getElem (show i.toNat < s.data.toList.length by rw [size_list]; exact h)]
    rfl
  · rw [dif_neg h, List.getElem?_eq_none (show s.data.toList.length ≤ i.toNat by rw [size_list]; omega)]
    rfl
theorem bs_drop (s : ByteArray) (a : Nat) : bs (s.extract a s.size) = (bs s).drop a := by
  unfold bs
  rw [ByteArray.data_extract, Array.toList_extract, ← List.map_drop]
  congr 1
  rw [List.extract_eq_take_drop]
  exact List.take_of_length_le (by rw [List.length_drop, size_list]; exact Nat.le_refl _)
theorem bs_append (s t : ByteArray) : bs (s ++ t) = bs s ++ bs t := by
  unfold bs
  rw [ByteArray.data_append, Array.toList_append, List.map_append]
theorem bs_inj {s t : ByteArray} (h : bs s = bs t) : s = t := by
  apply ByteArray.ext
  apply Array.ext'
  unfold bs at h
  refine (List.map_inj_right ?_).1 h
  intro x y e
  exact UInt8.toNat_inj.1 (by omega)
theorem bs_list (s : ByteArray) (l : List UInt8) : s.toList = l ↔ bs s = l.map (fun b => (b.toNat : Int)) := by
  rw [ByteArray.toList_eq]
  unfold bs
  constructor
  · intro h; rw [h]
  · intro h
    refine (List.map_inj_right ?_).1 h
    intro x y e
    exact UInt8.toNat_inj.1 (by omega)
theorem bs_nums (l : List Int) (hb : Byt l) : bs (strOfNums l) = l := by
  unfold bs strOfNums
  simp only [List.map_map]
  conv => rhs; rw [← List.map_id l]
  refine List.map_congr_left fun x hx => ?_
  have := hb x hx
  simp only [Function.comp]
  show ((UInt8.ofNat x.toNat).toNat : Int) = x
  simp
  omega
end Go.Proofs.Ytabdoommjdgogaa.Pure
