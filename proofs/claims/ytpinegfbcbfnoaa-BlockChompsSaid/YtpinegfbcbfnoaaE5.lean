/- Chapter 8: lines whose first and last are words. -/
import Derived.Test.YtpinegfbcbfnoaaE4
namespace Go.Proofs.Ytpinegfbcbfnoaa.Pure
open Go.RowKit Go.Proofs.Ytpinegfbcbfnoaa.Q Go.Proofs.YtpinegfbcbfnoaaW.PrintWords Go.Proofs.YtpinegfbcbfnoaaW.PrintLast
set_option linter.unusedVariables false
set_option linter.unusedSimpArgs false
theorem st_fst (L : List (List Int)) : ∀ (i : Nat) (a b : Int), 0 ≤ a → (st L i a b).1 = a := by
  induction L with
  | nil => intro i a b h; rfl
  | cons x t ih =>
    intro i a b h
    rw [st]
    split
    · exact ih _ _ _ h
    · rw [if_neg (by omega)]
      exact ih _ _ _ h
theorem st_two (x : List Int) (t Y : List (List Int)) (z : List Int) (hx : emp x = false) (hz : emp z = false) (h : x :: t = Y ++ [z]) : st (x :: t) 0 (-1) (-1) = (0, (t.length : Int)) := by
  have h1 : (st (x :: t) 0 (-1) (-1)).1 = 0 := by
    rw [st, if_neg (by rw [hx]; decide)]
    exact st_fst t _ _ _ (by decide)
  have h2 : (st (x :: t) 0 (-1) (-1)).2 = (t.length : Int) := by
    have hl := congrArg List.length h
    rw [List.length_append, List.length_cons] at hl
    simp only [List.length_cons, List.length_nil] at hl
    rw [h, st_app, st, if_neg (by rw [hz]; decide), st]
    show ((0 + Y.length : Nat) : Int) = _
    omega
  exact Prod.ext h1 h2
/-- A text whose first line has its indent, and whose last line that is not empty stands ahead of empty ones. -/
theorem txt_two (f p m : Bool) (ind : Nat) (x : List Int) (t Y : List (List Int)) (z : List Int) (E : List (List Int)) (hx : emp x = false) (hz : emp z = false) (h : x :: t = Y ++ [z]) (hE : ∀ y ∈ E, emp y = true) (hi : spc x x.length = ind) :
    txt f p m ((x :: t) ++ E) = (if f = true then fol ((x :: t).map (cutL ind)) [] 0 else joinL ((x :: t).map (cutL ind))) ++ (if m = true then [] else if p = true then List.replicate (1 + E.length) 10 else [10]) := by
  have hst : st ((x :: t) ++ E) 0 (-1) (-1) = (0, (t.length : Int)) := by rw [st_app, st_two x t Y z hx hz h, st_emp E _ _ _ hE]
  unfold txt
  rw [hst]
  simp only
  rw [if_neg (by decide), show ((0 : Int)).toNat = 0 from rfl, show (((x :: t) ++ E).getD 0 []) = x from rfl, hi, Int.toNat_natCast]
  have ht : (((x :: t) ++ E).map (cutL ind)).take (t.length + 1) = (x :: t).map (cutL ind) := by
    rw [List.map_append]
    exact List.take_left' (by rw [List.length_map, List.length_cons])
  have he : ((x :: t) ++ E).length - 1 - t.length = E.length := by
    rw [List.length_append, List.length_cons]
    omega
  rw [ht, he]
theorem join_snoc (X : List (List Int)) (w : List Int) (h : X ≠ []) : joinL (X ++ [w]) = (joinL X ++ [10]) ++ w := by
  cases X with
  | nil => exact absurd rfl h
  | cons x r =>
    rw [List.cons_append, joinL, joinL, List.map_append, List.flatten_append, List.append_assoc, List.append_assoc]
    congr 2
    show [10 :: w].flatten = _
    rw [List.flatten_cons, List.flatten_nil, List.append_nil]
    rfl
end Go.Proofs.Ytpinegfbcbfnoaa.Pure
