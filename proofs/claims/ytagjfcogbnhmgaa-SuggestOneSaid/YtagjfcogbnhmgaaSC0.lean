/- What the scanners do, said plainly over lists of bytes: the parts that only look. No program in it. -/
import Derived.Test.YtagjfcogbnhmgaaQ0
import Derived.Test.YtagjfcogbnhmgaaH
namespace Go.Proofs.Ytagjfcogbnhmgaa.Sc
open Go.RowKit Go.Proofs.Ytagjfcogbnhmgaa.Q Go.Proofs.YtagjfcogbnhmgaaW.PrintWords Go.Proofs.YtagjfcogbnhmgaaW.PrintLast Go.Proofs.YtagjfcogbnhmgaaW.PrintMore

/-- From i on, as long as p holds, n at the most. -/
def runp (p : Int → Bool) : Nat → Int → Int
  | 0, i => i
  | k + 1, i => if p i then runp p k (i + 1) else i
/-- From i on, below n, as long as p holds. -/
def upto (n : Int) (p : Int → Bool) (i : Int) : Int := runp p (n - i).toNat i
theorem upto_go {n i : Int} {p : Int → Bool} (h : i < n) (hp : p i = true) : upto n p i = upto n p (i + 1) := by
  unfold upto
  obtain ⟨m, hm⟩ : ∃ m, (n - i).toNat = m + 1 := ⟨(n - i).toNat - 1, by omega⟩
  rw [hm, show (n - (i + 1)).toNat = m by omega]
  simp [runp, hp]
theorem upto_end {n i : Int} {p : Int → Bool} (h : ¬ i < n) : upto n p i = i := by
  unfold upto
  rw [show (n - i).toNat = 0 by omega]
  rfl
theorem upto_stop {n i : Int} {p : Int → Bool} (hp : p i = false) : upto n p i = i := by
  unfold upto
  cases h : (n - i).toNat with
  | zero => rfl
  | succ m => simp [runp, hp]
theorem runp_le (p : Int → Bool) : ∀ (k : Nat) (i : Int), i ≤ runp p k i ∧ runp p k i ≤ i + k
  | 0, i => by simp [runp]
  | k + 1, i => by
    unfold runp
    split
    · have := runp_le p k (i + 1)
      omega
    · omega
theorem upto_le {n i : Int} {p : Int → Bool} (h : i ≤ n) : i ≤ upto n p i ∧ upto n p i ≤ n := by
  have := runp_le p (n - i).toNat i
  unfold upto
  omega

/-- Does c stand at i? -/
def th (b : List Int) (i c : Int) : Bool := decide (i < (b.length : Int)) && (rd b i == c)
/-- How many bytes the break at i has. -/
def brk (b : List Int) (i : Int) : Int := if th b i 13 && th b (i + 1) 10 then 2 else if th b i 13 || th b i 10 then 1 else 0
def blank (c : Int) : Bool := c == 32 || c == 9
/-- A blank, a break, or the end. -/
def spc (b : List Int) (i : Int) : Bool := decide ((b.length : Int) ≤ i) || blank (rd b i) || decide (0 < brk b i)
def line (b : List Int) (i : Int) : Int := upto b.length (fun j => brk b j == 0) i
def blanks (b : List Int) (i : Int) : Int := upto b.length (fun j => blank (rd b j)) i
def spaces (b : List Int) (i : Int) : Int := upto b.length (fun j => rd b j == 32) i
/-- Signs of names. -/
def name (c : Int) : Bool := decide (97 ≤ c ∧ c ≤ 122) || decide (65 ≤ c ∧ c ≤ 90) || decide (48 ≤ c ∧ c ≤ 57) || c == 95 || c == 45
def flow (c : Int) : Bool := c == 44 || c == 91 || c == 93 || c == 123 || c == 125
def names (b : List Int) (i : Int) : Int := upto b.length (fun j => name (rd b j)) i
theorem th_true {b : List Int} {i c : Int} (h : th b i c = true) : i < (b.length : Int) ∧ (rd b i == c) = true := by
  unfold th at h
  simpa [and_comm] using h
theorem upto_th {b : List Int} {i c : Int} (h : th b i c = false) : upto b.length (fun j => rd b j == c) i = i := by
  by_cases h1 : i < (b.length : Int)
  · exact upto_stop (by simpa [th, h1] using h)
  · exact upto_end h1
/-- Bytes i to j, as a text. -/
def cut (b : List Int) (i j : Int) : List Int := (b.take j.toNat).drop i.toNat
/-- The mark at i: 20, 21; 0: none. -/
def mark (b : List Int) (i : Int) : Int := if decide ((b.length : Int) < i + 3) || !spc b (i + 3) then 0 else if (strOfNums (cut b i (i + 3))).toList == [45, 45, 45] then 20 else if (strOfNums (cut b i (i + 3))).toList == [46, 46, 46] then 21 else 0
/-- Is there a colon that parts at i? -/
def colon (b : List Int) (op i : Int) : Bool := th b i 58 && (spc b (i + 1) || (decide (op > 0) && flow (rd b (i + 1))))
def tag (b : List Int) (i : Int) : Int := upto b.length (fun j => name (rd b j) || rd b j == 33) i
/-- An anchor, an alias, a tag: its kind and its end. -/
def prop (b : List Int) (i : Int) : Int × Int :=
  if rd b i = 33 then (14, tag b (i + 1)) else if names b (i + 1) = i + 1 then (0, 0) else (if rd b i = 38 then 12 else if rd b i = 42 then 13 else 0, names b (i + 1))
/-- The end of a text of ' that ends at e at the most; from i on. -/
def sgl (b : List Int) (e : Int) : Nat → Int → Int
  | 0, _ => e
  | k + 1, i => if i < e then (if rd b i = 39 then (if th b (i + 1) 39 then sgl b e k (i + 2) else i + 1) else sgl b e k (i + 1)) else e
def single (b : List Int) (i : Int) : Int := sgl b (line b i) (line b i - i).toNat (i + 1)
def dbl (b : List Int) (e : Int) : Nat → Int → Int
  | 0, _ => e
  | k + 1, i => if i < e then (if rd b i = 34 then i + 1 else if rd b i = 92 then dbl b e k (i + 2) else dbl b e k (i + 1)) else e
def double (b : List Int) (i : Int) : Int := dbl b (line b i) (line b i - i).toNat (i + 1)
/-- The end of a block text's head at i; 0: none. -/
def headTo (b : List Int) (i : Int) : Int := if th b (i + 1) 43 || th b (i + 1) 45 then i + 2 else i + 1
def headAt (b : List Int) (i : Int) : Int := blanks b (headTo b i)
def headOk (b : List Int) (i : Int) : Bool := headAt b i == line b (headAt b i) || (decide (headAt b i > headTo b i) && th b (headAt b i) 35)
def head (b : List Int) (op i : Int) : Int := if op > 0 then 0 else if rd b i = 124 ∨ rd b i = 62 then (if headOk b i then headTo b i else 0) else 0
/-- The kind of a bracket or a comma at i; 0: none; and how many are open then. -/
def bra (b : List Int) (op i : Int) : Int × Int :=
  if rd b i = 91 then (8, op + 1) else if rd b i = 123 then (9, op + 1) else if rd b i = 93 then (10, mx (op - 1) 0) else if rd b i = 125 then (11, mx (op - 1) 0) else if rd b i = 44 then (if op > 0 then (7, op) else (0, op)) else (0, op)
/-- A new row begins behind these; those do not count. -/
def isNew (k : Int) : Bool := k == 1 || k == 19
def isLoose (k : Int) : Bool := k == 2 || k == 3 || k == 4
def tkRow (k e row : Int) : Int := if isNew k then e else row
def tkBase (k at_ row base : Int) : Int := if isNew k then -1 else if isLoose k then base else if base < 0 then at_ - row else base
def tkDash (k : Int) (dash : Bool) : Bool := if isNew k then true else if isLoose k then dash else (dash && k == 5) || k == 20
/-- A scanner: its place, its tokens, how many brackets are open, where its row began, the first column that counts, may a dash stand. -/
structure St where
  at_ : Int
  l : List S48
  op : Int
  row : Int
  base : Int
  dash : Bool
/-- A token up to e. -/
def tk (k e : Int) (s : St) : St := ⟨e, s.l ++ [⟨k, s.at_, e⟩], s.op, tkRow k e s.row, tkBase k s.at_ s.row s.base, tkDash k s.dash⟩
/-- The last token's kind; 0: there is none. -/
def last (l : List S48) : Int := if l = [] then 0 else (rd_T48 l ((l.length : Int) - 1)).f0
/-- A mark, or the row's indent. -/
def begunS (b : List Int) (s : St) : Option St :=
  if mark b s.at_ ≠ 0 then some (tk (mark b s.at_) (s.at_ + 3) { s with op := 0 })
  else if s.at_ < spaces b s.at_ then some (tk 2 (spaces b s.at_) s) else none
/-- A break, blanks, a comment. -/
def looseS (b : List Int) (s : St) : Option St :=
  if 0 < brk b s.at_ then some (tk 1 (s.at_ + brk b s.at_) s)
  else if s.at_ < blanks b s.at_ then some (tk 3 (blanks b s.at_) s)
  else if th b s.at_ 35 = true ∧ (s.at_ = s.row ∨ last s.l = 2 ∨ last s.l = 3) then some (tk 4 (line b s.at_) s) else none
/-- May a dash stand here, and does it? -/
def dashS (b : List Int) (s : St) : Bool := th b s.at_ 45 && (spc b (s.at_ + 1) && (s.op == 0 && s.dash))
/-- A bracket, a comma, a dash, a colon, a name with its sign. -/
def signS (b : List Int) (s : St) : Option St :=
  if (bra b s.op s.at_).1 ≠ 0 then some (tk (bra b s.op s.at_).1 (s.at_ + 1) { s with op := (bra b s.op s.at_).2 })
  else if dashS b s = true then some (tk 5 (s.at_ + 1) s)
  else if colon b s.op s.at_ = true then some (tk 6 (s.at_ + 1) s)
  else if (prop b s.at_).1 ≠ 0 then some (tk (prop b s.at_).1 (prop b s.at_).2 s) else none
/-- The rows of a block text. -/
def textRows (b : List Int) (base : Int) : Nat → St → St
  | 0, s => s
  | k + 1, s => if s.at_ < (b.length : Int) ∧ mark b s.at_ = 0 then (if blanks b s.at_ ≠ line b s.at_ ∧ spaces b s.at_ - s.at_ ≤ base then s else textRows b base k (tk 19 (line b s.at_ + brk b (line b s.at_)) s)) else s
def texts1 (b : List Int) (s : St) : St := if s.at_ < blanks b s.at_ then tk 3 (blanks b s.at_) s else s
def texts2 (b : List Int) (s : St) : St := if s.at_ < line b s.at_ then tk 4 (line b s.at_) s else s
def texts3 (b : List Int) (base : Int) (s : St) : St := if brk b s.at_ = 0 then s else textRows b base ((b.length : Int) - s.at_).toNat (tk 1 (s.at_ + brk b s.at_) s)
def texts (b : List Int) (base : Int) (s : St) : St := texts3 b base (texts2 b (texts1 b s))
/-- The sign at i of the bytes up to e. -/
def nxt (b : List Int) (i e : Int) : Int × Int := nextS (strOfNums ((cut b i e).take 4))
/-- The end of a plain text at i, whose row's bytes from i on are s: from p on; the last sign that is no blank ended at t. -/
def plGo (b : List Int) (op i e : Int) (s : ByteArray) : Nat → Int → Int → Bool → Int
  | 0, _, t, _ => t
  | k + 1, p, t, bl => if p < (s.size : Int) then
      (if p > 0 ∧ ((nxt b (i + p) e).1 < 0 ∨ colon b op (i + p) = true ∨ (rdRune s p = 35 ∧ bl = true)) then t
       else if p > 0 ∧ op > 0 ∧ rdRune s p < 128 ∧ flow (rdRune s p % 256) = true then t
       else plGo b op i e s k (rdNext s p) (if rdRune s p = 32 ∨ rdRune s p = 9 then t else i + p + (nxt b (i + p) e).2) (rdRune s p == 32 || rdRune s p == 9))
    else t
def plain (b : List Int) (op i : Int) : Int := plGo b op i (line b i) (strOfNums (cut b i (line b i))) (strOfNums (cut b i (line b i))).size 0 i false
/-- A token of text. -/
def textS (b : List Int) (s : St) : St :=
  if rd b s.at_ = 39 then tk 16 (single b s.at_) s
  else if rd b s.at_ = 34 then tk 17 (double b s.at_) s
  else if 0 < head b s.op s.at_ then texts b (if s.base < 0 then s.at_ - s.row - 1 else s.base) (tk 18 (head b s.op s.at_) s)
  else if (nextS (strOfNums ((b.drop s.at_.toNat).take 4))).1 < 0 then tk 22 (s.at_ + 1) s
  else tk 15 (plain b s.op s.at_) s
/-- One step. -/
def stepS (b : List Int) (s : St) : St :=
  match (if s.at_ = s.row then begunS b s else none) with
  | some t => t
  | none => match looseS b s with
    | some t => t
    | none => match signS b s with
      | some t => t
      | none => textS b s
def loopS (b : List Int) : Nat → St → St
  | 0, s => s
  | k + 1, s => if s.at_ < (b.length : Int) then loopS b k (stepS b s) else s
/-- A text's tokens. -/
def toks (b : List Int) : List S48 := (loopS b b.length ⟨0, [], 0, 0, -1, true⟩).l
end Go.Proofs.Ytagjfcogbnhmgaa.Sc
