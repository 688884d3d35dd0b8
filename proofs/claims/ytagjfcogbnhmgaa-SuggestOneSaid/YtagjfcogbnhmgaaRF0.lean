/- What the reference's scanner does, said plainly. No program in it. -/
import Derived.Test.YtagjfcogbnhmgaaSC0
import Derived.Test.YtagjfcogbnhmgaaN1
namespace Go.Proofs.Ytagjfcogbnhmgaa.Rf
open Go.RowKit Go.Proofs.Ytagjfcogbnhmgaa.Q Go.Proofs.YtagjfcogbnhmgaaW.PrintWords Go.Proofs.YtagjfcogbnhmgaaW.PrintLast Go.Proofs.YtagjfcogbnhmgaaW.PrintMore Go.Proofs.Ytagjfcogbnhmgaa.Sc Go.Proofs.Ytagjfcogbnhmgaa.Pure

/-- The byte at i; 0: none is there. -/
def ba (b : List Int) (i : Int) : Int := if 0 ≤ i ∧ i < (b.length : Int) then rd b i else 0
def markR (b : List Int) (i : Int) : Int :=
  if (b.length : Int) < i + 3 ∨ rd b (i + 1) ≠ ba b i ∨ rd b (i + 2) ≠ ba b i ∨ spc b (i + 3) = false then 0 else if ba b i = 45 then 20 else if ba b i = 46 then 21 else 0
def namesR (b : List Int) (i : Int) (tag : Bool) : Int := upto b.length (fun j => name (rd b j) || (tag && rd b j == 33)) i
def sglR (b : List Int) (e : Int) : Nat → Int → Int
  | 0, _ => e
  | k + 1, i => if i < e then (if rd b i = 39 then (if i + 1 < e ∧ rd b (i + 1) = 39 then sglR b e k (i + 2) else i + 1) else sglR b e k (i + 1)) else e
def singleR (b : List Int) (i e : Int) : Int := sglR b e (e - i).toNat i
def doubleR (b : List Int) (i e : Int) : Int := dbl b e (e - i).toNat i
def headJ (b : List Int) (i : Int) : Int := if ba b (i + 1) = 43 ∨ ba b (i + 1) = 45 then i + 2 else i + 1
def headK (b : List Int) (i : Int) : Int := blanks b (headJ b i)
def headR (b : List Int) (op i : Int) : Int :=
  if (rd b i ≠ 124 ∧ rd b i ≠ 62) ∨ op > 0 then 0
  else if headK b i < (b.length : Int) ∧ brk b (headK b i) = 0 ∧ ¬ (rd b (headK b i) = 35 ∧ headK b i > headJ b i) then 0 else headJ b i - i
/-- Does a plain text end ahead of i? -/
def plStop (b : List Int) (op i : Int) : Bool :=
  decide ((nx (b.drop i.toNat)).1 < 0) || (decide (0 < brk b i) || (colon b op i || ((rd b i == 35 && Sc.blank (rd b (i - 1))) || (decide (op > 0) && flow (rd b i)))))
def plR (b : List Int) (op : Int) : Nat → Int → Int
  | 0, i => i
  | k + 1, i => if i < (b.length : Int) then (if plStop b op i = true then i else plR b op k (i + (nx (b.drop i.toNat)).2)) else i
/-- Back over blanks, down to m. -/
def trimR (b : List Int) (m : Int) : Nat → Int → Int
  | 0, i => i
  | k + 1, i => if i > m ∧ Sc.blank (rd b (i - 1)) = true then trimR b m k (i - 1) else i
def plainR (b : List Int) (op i : Int) : Int :=
  trimR b (i + 1) ((plR b op ((b.length : Int) - (i + (nx (b.drop i.toNat)).2)).toNat (i + (nx (b.drop i.toNat)).2)) - (i + 1)).toNat (plR b op ((b.length : Int) - (i + (nx (b.drop i.toNat)).2)).toNat (i + (nx (b.drop i.toNat)).2))
def counts (k : Int) : Bool := k != 1 && (k != 2 && (k != 3 && k != 4))
structure RSt where
  at_ : Int
  row : Int
  op : Int
  base : Int
  only : Bool
  text : Int
  l : List S48
def adBase (k at_ row base : Int) : Int := if counts k && (k != 19 && decide (base < 0)) then at_ - row else base
def adOnly (k : Int) (only : Bool) : Bool := if k != 2 && (k != 3 && (k != 5 && k != 20)) then false else only
def addR (k e : Int) (s : RSt) : RSt := ⟨e, s.row, s.op, adBase k s.at_ s.row s.base, adOnly k s.only, s.text, s.l ++ [⟨k, s.at_, e⟩]⟩
def nextR (s : RSt) : RSt := ⟨s.at_, s.at_, s.op, -1, true, s.text, s.l⟩
def sp2 (b : List Int) (s : RSt) : Int := upto (line b s.at_) (fun j => rd b j == 32) s.at_
def bl2 (b : List Int) (s : RSt) : Int := upto (line b s.at_) (fun j => Sc.blank (rd b j)) (sp2 b s)
def rowsR (b : List Int) (base : Int) : Nat → RSt → RSt
  | 0, s => s
  | k + 1, s => if s.at_ < (b.length : Int) ∧ markR b s.at_ = 0 then (if bl2 b s < line b s.at_ ∧ sp2 b s - s.at_ ≤ base then s else rowsR b base k (nextR (addR 19 (line b s.at_ + brk b (line b s.at_)) s))) else s
def textsR (b : List Int) (s : RSt) : RSt := rowsR b s.text ((b.length : Int) - s.at_).toNat { s with text := -2 }
def breakR (b : List Int) (s : RSt) : RSt := if s.text ≥ -1 then textsR b (nextR (addR 1 (s.at_ + brk b s.at_) s)) else nextR (addR 1 (s.at_ + brk b s.at_) s)
def spaceS (b : List Int) (s : RSt) : Option RSt :=
  if 0 < brk b s.at_ then some (breakR b s)
  else if s.at_ = s.row ∧ rd b s.at_ = 32 then some (addR 2 (spaces b s.at_) s)
  else if Sc.blank (rd b s.at_) = true then some (addR 3 (blanks b s.at_) s)
  else if rd b s.at_ = 35 ∧ (s.at_ = s.row ∨ last s.l = 2 ∨ last s.l = 3) then some (addR 4 (line b s.at_) s)
  else none
def withOp (o : Int) (s : RSt) : RSt := { s with op := o }
def bracketS (b : List Int) (s : RSt) : Option RSt :=
  if rd b s.at_ = 91 then some (withOp (s.op + 1) (addR 8 (s.at_ + 1) s))
  else if rd b s.at_ = 123 then some (withOp (s.op + 1) (addR 9 (s.at_ + 1) s))
  else if rd b s.at_ = 93 then some (withOp (mx (s.op - 1) 0) (addR 10 (s.at_ + 1) s))
  else if rd b s.at_ = 125 then some (withOp (mx (s.op - 1) 0) (addR 11 (s.at_ + 1) s))
  else if rd b s.at_ = 44 ∧ s.op > 0 then some (addR 7 (s.at_ + 1) s)
  else none
def wordS (b : List Int) (s : RSt) : RSt :=
  if rd b s.at_ = 45 ∧ s.op = 0 ∧ s.only = true ∧ spc b (s.at_ + 1) = true then addR 5 (s.at_ + 1) s
  else if colon b s.op s.at_ = true then addR 6 (s.at_ + 1) s
  else if rd b s.at_ = 38 ∧ namesR b (s.at_ + 1) false > s.at_ + 1 then addR 12 (namesR b (s.at_ + 1) false) s
  else if rd b s.at_ = 42 ∧ namesR b (s.at_ + 1) false > s.at_ + 1 then addR 13 (namesR b (s.at_ + 1) false) s
  else if rd b s.at_ = 33 then addR 14 (namesR b (s.at_ + 1) true) s
  else if rd b s.at_ = 39 then addR 16 (singleR b (s.at_ + 1) (line b s.at_)) s
  else if rd b s.at_ = 34 then addR 17 (mn (doubleR b (s.at_ + 1) (line b s.at_)) (line b s.at_)) s
  else if 0 < headR b s.op s.at_ then addR 18 (s.at_ + headR b s.op s.at_) { s with text := if s.base < 0 then s.at_ - s.row - 1 else s.base }
  else if (nx (b.drop s.at_.toNat)).1 < 0 then addR 22 (s.at_ + 1) s
  else addR 15 (plainR b s.op s.at_) s
def markOf (b : List Int) (s : RSt) : Int := if s.at_ = s.row then markR b s.at_ else 0
def stepR (b : List Int) (s : RSt) : RSt :=
  if markOf b s > 0 then withOp 0 (addR (markOf b s) (s.at_ + 3) s)
  else match spaceS b s with
    | some t => t
    | none => match bracketS b s with
      | some t => t
      | none => wordS b s
/-- The scanner's numbers are as they must be. -/
def okR (b : List Int) (s : RSt) : Bool := decide (0 ≤ s.row) && (decide (s.row ≤ s.at_) && (decide (s.at_ ≤ (b.length : Int)) && (decide ((s.l.length : Int) ≤ s.at_) && (decide (0 ≤ s.op) && (decide (s.op ≤ s.at_) && (decide (-1 ≤ s.base) && (decide (s.base ≤ s.at_) && (decide (-2 ≤ s.text) && (decide (s.text ≤ s.at_) && (decide (s.at_ = s.row) || decide (0 < s.l.length)))))))))))
def loopR (b : List Int) : Nat → RSt → Option RSt
  | 0, _ => none
  | k + 1, s => if okR b s = true then (if s.at_ < (b.length : Int) then loopR b k (stepR b s) else some s) else none
def rs0 : RSt := ⟨0, 0, 0, -1, true, -2, []⟩
def bytB (b : List Int) : Bool := b.all fun x => decide (0 ≤ x) && decide (x ≤ 255)
theorem bytB_byt {b : List Int} (h : bytB b = true) : Byt b := by
  intro x hx
  have := List.all_eq_true.mp h x hx
  simpa using this
/-- What the reference's Tokens answers. -/
def toksR (b : List Int) : Option (List S48) := if (b.length : Int) > 16384 then some [] else if bytB b = true then (loopR b (b.length + 1) rs0).bind fun s => some s.l else none
end Go.Proofs.Ytagjfcogbnhmgaa.Rf
