/- Chapter 8: a line without its break, an empty line, spaces ahead: plain laws, and that the program answers them. -/
import Derived.Test.YtpinegfbcbfnoaaE0
namespace Go.Proofs.Ytpinegfbcbfnoaa.Pure
open Go.RowKit Go.Proofs.Ytpinegfbcbfnoaa.Q Go.Proofs.YtpinegfbcbfnoaaW.PrintWords Go.Proofs.YtpinegfbcbfnoaaW.PrintLast
set_option linter.unusedVariables false
set_option linter.unusedSimpArgs false

def ints (l : List UInt8) : List Int := l.map fun b => (b.toNat : Int)
theorem bs_ints (s : ByteArray) : bs s = ints s.data.toList := rfl
/-- A line without its break. -/
def ownL : List Int → List Int
  | [] => []
  | c :: t => if c = 13 ∨ c = 10 then [] else c :: ownL t
theorem idx_own (l : List UInt8) : (Lib.indexAny l [13, 10] = -1 ∧ ownL (ints l) = ints l) ∨ (∃ n : Nat, n ≤ l.length ∧ Lib.indexAny l [13, 10] = (n : Int) ∧ ownL (ints l) = (ints l).take n) := by
  induction l with
  | nil => exact .inl ⟨rfl, rfl⟩
  | cons b t ih =>
    have hb : ([13, 10] : List UInt8).contains b = decide ((b.toNat : Int) = 13 ∨ (b.toNat : Int) = 10) := by
      rw [Bool.eq_iff_iff, decide_eq_true_eq, List.contains_iff_mem, List.mem_cons, List.mem_singleton]
      constructor
      · rintro (rfl | rfl)
        · exact .inl rfl
        · exact .inr rfl
      · rintro (h | h)
        · exact .inl (UInt8.toNat_inj.1 (by have : (13 : UInt8).toNat = 13 := rfl; omega))
        · exact .inr (UInt8.toNat_inj.1 (by have : (10 : UInt8).toNat = 10 := rfl; omega))
    rw [Lib.indexAny, hb, show ints (b :: t) = (b.toNat : Int) :: ints t from rfl, ownL]
    by_cases c : (b.toNat : Int) = 13 ∨ (b.toNat : Int) = 10
    · rw [if_pos (decide_eq_true c), if_pos c]
      exact .inr ⟨0, Nat.zero_le _, rfl, rfl⟩
    · rw [if_neg (by simpa using c), if_neg c]
      rcases ih with ⟨h1, h2⟩ | ⟨n, h0, h1, h2⟩
      · rw [h1, h2]
        exact .inl ⟨rfl, rfl⟩
      · rw [h1, h2, if_neg (by simp <;> omega)]
        exact .inr ⟨n + 1, by rw [List.length_cons]; omega, by omega, rfl⟩
def Asc (l : List Int) : Prop := ∀ x ∈ l, x < 128
theorem asc_all (s : ByteArray) (h : Asc (bs s)) : (s.data.toList.all fun b => decide (b.toNat < 128)) = true := by
  rw [List.all_eq_true]
  intro b hb
  have := h (b.toNat : Int) (List.mem_map.2 ⟨b, hb, rfl⟩)
  exact decide_eq_true (by omega)
theorem ownL_byt (l : List Int) (h : Byt l) : Byt (ownL l) := by
  induction l with
  | nil => exact Byt.nil
  | cons c t ih =>
    rw [ownL]
    have hc := h c (List.mem_cons_self ..)
    split
    · exact Byt.nil
    · exact Byt.cons hc.1 hc.2 (ih fun x hx => h x (List.mem_cons_of_mem _ hx))
theorem ownL_len (l : List Int) : (ownL l).length ≤ l.length := by
  induction l with
  | nil => exact Nat.le_refl _
  | cons c t ih =>
    rw [ownL]
    split
    · exact Nat.zero_le _
    · simp only [List.length_cons]; omega
theorem own_of (s : ByteArray) (hs : s.size ≤ 100000) (h : strings_IndexAny.f s (⟨#[13, 10]⟩ : ByteArray) = some (Lib.indexAny s.data.toList [13, 10])) : block_own.f s = some (strOfNums (ownL (bs s))) := by
  unfold block_own.f
  rw [h, Option.bind_some, bs_ints]
  rcases idx_own s.data.toList with ⟨h1, h2⟩ | ⟨n, h0, h1, h2⟩
  · rw [h1, if_neg (by decide), h2, ← bs_ints, nums_bs]
  · rw [size_list] at h0
    rw [h1, if_pos (by omega), if_pos (by omega), if_pos (by omega), Int.toNat_natCast, h2, ← bs_ints]
    have : bs (s.extract 0 n) = (bs s).take n := by rw [bs_cut, List.drop_zero, Nat.sub_zero]
    rw [← this, nums_bs]
theorem own_eq (s : ByteArray) (hs : s.size ≤ 100000) (ha : Asc (bs s)) : block_own.f s = some (strOfNums (ownL (bs s))) := by
  refine own_of s hs ?_
  unfold strings_IndexAny.f
  rw [if_pos (by omega), if_pos (by decide), if_pos (asc_all s ha), if_pos (by decide)]

/-- Only blanks. -/
def emp (l : List Int) : Bool := l.all fun c => decide (c = 32 ∨ c = 9)
theorem emp_cons (c : Int) (t : List Int) : emp (c :: t) = (decide (c = 32 ∨ c = 9) && emp t) := rfl
theorem empty_loop (s : ByteArray) (hs : s.size ≤ 100000) (d : Nat) : ∀ (k i : Nat), i + d = s.size → d < k → block_empty.l0 k s (i : Int) = some (emp ((bs s).drop i)) := by
  induction d with
  | zero =>
    intro k i hi hk
    obtain ⟨k, rfl⟩ : ∃ m, k = m + 1 := ⟨k - 1, by omega⟩
    rw [block_empty.l0, if_pos (by omega), if_neg (by omega), drop_end s i (by omega)]
    rfl
  | succ d ih =>
    intro k i hi hk
    obtain ⟨k, rfl⟩ : ∃ m, k = m + 1 := ⟨k - 1, by omega⟩
    rw [block_empty.l0, if_pos (by omega), if_pos (by omega), drop_bt s i (by omega), emp_cons]
    by_cases c : bt s (i : Int) < 128
    · obtain ⟨e1, e2⟩ := rune_low s i (by omega) c
      rw [e1, e2]
      by_cases a : bt s (i : Int) = 32
      · rw [if_pos a, ih k (i + 1) (by omega) (by omega), decide_eq_true (.inl a)]
        rfl
      rw [if_neg a]
      by_cases b : bt s (i : Int) = 9
      · rw [if_pos b, ih k (i + 1) (by omega) (by omega), decide_eq_true (.inr b)]
        rfl
      · rw [if_neg b, decide_eq_false (by omega)]
        rfl
    · have e1 := rune_high s i (by omega) (by omega)
      rw [if_neg (by omega), if_neg (by omega), decide_eq_false (by omega)]
      rfl
theorem empty_eq (k : Nat) (s : ByteArray) (hs : s.size ≤ 100000) (hk : s.size < k) : block_empty.f k s = some (emp (bs s)) := by
  unfold block_empty.f
  exact empty_loop s hs s.size k 0 (by omega) hk

/-- Spaces ahead, at most so many. -/
def spc : List Int → Nat → Nat
  | [], _ => 0
  | _ :: _, 0 => 0
  | c :: t, m + 1 => if c = 32 then spc t m + 1 else 0
theorem spc_le (l : List Int) : ∀ m, spc l m ≤ l.length ∧ spc l m ≤ m := by
  induction l with
  | nil => intro m; exact ⟨Nat.le_refl _, Nat.zero_le _⟩
  | cons c t ih =>
    intro m
    cases m with
    | zero => exact ⟨Nat.zero_le _, Nat.le_refl _⟩
    | succ m =>
      have := ih m
      rw [spc]
      split
      · rw [List.length_cons]; omega
      · exact ⟨Nat.zero_le _, Nat.zero_le _⟩
theorem spaces_loop (s : ByteArray) (hs : s.size ≤ 100000) (m : Nat) (hm : m ≤ 100000) (d : Nat) : ∀ (k i : Nat), i + d = s.size → d < k → i ≤ m → block_spaces.l0 k s (m : Int) (i : Int) = some (((i + spc ((bs s).drop i) (m - i) : Nat)) : Int) := by
  induction d with
  | zero =>
    intro k i hi hk h
    obtain ⟨k, rfl⟩ : ∃ m, k = m + 1 := ⟨k - 1, by omega⟩
    rw [block_spaces.l0, if_neg (by omega), drop_end s i (by omega), spc]
    rfl
  | succ d ih =>
    intro k i hi hk h
    obtain ⟨k, rfl⟩ : ∃ m, k = m + 1 := ⟨k - 1, by omega⟩
    rw [block_spaces.l0, if_pos (by omega), drop_bt s i (by omega)]
    by_cases a : i < m
    · rw [if_pos (by omega), if_pos (by omega), show m - i = (m - (i + 1)) + 1 by omega, spc]
      by_cases c : bt s (i : Int) = 32
      · rw [if_pos c, if_pos c, w64 (by omega) (by omega), show (i : Int) + 1 = ((i + 1 : Nat) : Int) by omega, ih k (i + 1) (by omega) (by omega) (by omega)]
        congr 1
        omega
      · rw [if_neg c, if_neg c]
        rfl
    · rw [if_neg (by omega), show m - i = 0 by omega, spc]
      rfl
theorem spaces_eq (k : Nat) (s : ByteArray) (hs : s.size ≤ 100000) (m : Nat) (hm : m ≤ 100000) (hk : s.size < k) : block_spaces.f k s (m : Int) = some ((spc (bs s) m : Nat) : Int) := by
  unfold block_spaces.f
  have := spaces_loop s hs m hm s.size k 0 (by omega) hk (by omega)
  rw [List.drop_zero, Nat.zero_add] at this
  exact this

/-! ### Line feeds, and what is between lines -/
theorem feeds_eq (n : Nat) (hn : n ≤ 100000) : strings_Repeat.f (⟨#[10]⟩ : ByteArray) (n : Int) = some (strOfNums (List.replicate n 10)) := by
  have hz : (⟨#[10]⟩ : ByteArray).size = 1 := rfl
  unfold strings_Repeat.f
  rw [if_pos (by omega), if_pos (by omega), if_pos (by rw [hz, Int.toNat_natCast]; omega), Int.toNat_natCast]
  congr 1
  apply bs_inj
  rw [bs_nums _ (fun x hx => by rw [(List.mem_replicate.1 hx).2]; omega), bs_ints]
  show ints (Lib.repeatL [10] n) = _
  have := Lib.repeatL_replicate (10 : UInt8) 1 n
  rw [Nat.mul_one] at this
  rw [show ([10] : List UInt8) = List.replicate 1 10 from rfl, this]
  unfold ints
  rw [List.map_replicate]
  rfl
def blk (c : Int) : Bool := decide (c = 32 ∨ c = 9)
theorem blank_eq (c : Int) : chars_Blank.f c = some (blk c) := by
  unfold chars_Blank.f blk
  by_cases a : c = 32
  · rw [if_pos a, decide_eq_true (.inl a)]
  · rw [if_neg a]
    by_cases b : c = 9
    · rw [decide_eq_true (.inr b), b]; rfl
    · rw [decide_eq_false (by omega)]
      exact congrArg some (beq_false_of_ne b)
def betw (a b : List Int) (k : Nat) : List Int :=
  if blk (a.headD 0) = true then List.replicate (k + 1) 10 else if blk (b.headD 0) = true then List.replicate (k + 1) 10 else if k = 0 then [32] else List.replicate k 10
theorem head_bt (s : ByteArray) (h : 0 < s.size) : bt s 0 = (bs s).headD 0 := by
  have := drop_bt s 0 h
  rw [List.drop_zero] at this
  rw [this]
  rfl
theorem between_eq (a b : ByteArray) (k : Nat) (hk : k ≤ 10000) (ha : 0 < a.size) (hb : 0 < b.size) : block_between.f a b (k : Int) = some (strOfNums (betw (bs a) (bs b) k)) := by
  unfold block_between.f betw
  rw [if_pos (by omega), blank_eq, Option.bind_some, head_bt a ha, w64 (by omega) (by omega), show (k : Int) + 1 = ((k + 1 : Nat) : Int) by omega]
  by_cases c : blk ((bs a).headD 0) = true
  · rw [if_pos c, if_pos c, feeds_eq _ (by omega)]
    rfl
  rw [if_neg c, if_neg c, if_pos (by omega), blank_eq, Option.bind_some, head_bt b hb]
  by_cases d : blk ((bs b).headD 0) = true
  · rw [if_pos d, if_pos d, feeds_eq _ (by omega)]
    rfl
  rw [if_neg d, if_neg d]
  by_cases e : k = 0
  · rw [if_pos (by omega), if_pos e]
    rfl
  · rw [if_neg (by omega), if_neg e, feeds_eq _ (by omega)]
    rfl
theorem betw_byt (a b : List Int) (k : Nat) : Byt (betw a b k) ∧ (betw a b k).length ≤ k + 1 := by
  have r (n : Nat) : Byt (List.replicate n 10) := fun x hx => by rw [(List.mem_replicate.1 hx).2]; omega
  unfold betw
  refine ⟨?_, ?_⟩
  · repeat' split
    all_goals first | exact r _ | exact byt1 (by omega)
  · repeat' split
    all_goals first | (rw [List.length_replicate]; omega) | (simp only [List.length_cons, List.length_nil]; omega)
end Go.Proofs.Ytpinegfbcbfnoaa.Pure
