/- Small facts about bytes, texts and worlds that the contracts proved by hand lean on. No program in them. -/
import Derived.Lib.RuneCount
import Derived.Lib.RuneBytes
import Derived.Lib.OthersKept
import Derived.Laws.RangeString
import Derived.Laws.RangeAny
import Derived.LoopTactic
import Derived.WalkSpells
import Derived.WalkKit
import Derived.KernelRfl
import Derived.RowKit
import Derived.BigCall
import Derived.Test.YtnffgdbkiefinaaWMore
namespace Go.Proofs.Ytnffgdbkiefinaa.Q
open Go.RowKit Go.Proofs.YtnffgdbkiefinaaW.PrintWords Go.Proofs.YtnffgdbkiefinaaW.PrintLast Go.Proofs.YtnffgdbkiefinaaW.PrintMore
set_option linter.unusedVariables false
set_option linter.unusedSimpArgs false

/-- No sign is wider than what is left. -/
theorem dec_le_size (s : ByteArray) (pos : Nat) (h : pos < s.size) : pos + (Utf8.decode s pos).2 ≤ s.size := by
  simp only [Utf8.decode]
  repeat' split
  all_goals simp_all
  all_goals omega
/-- What runes.Next says of the sign with which a text begins. -/
def nextS (s : ByteArray) : Int × Int := if (Utf8.decode s 0).1 = 65533 ∧ (Utf8.decode s 0).2 < 3 then (-1, 1) else ((Utf8.decode s 0).1, (Utf8.decode s 0).2)
theorem next_ends {c n : Nat} {r1 r2 x y : Int} (h : (if c = 65533 ∧ n < 3 then ((-1 : Int), (1 : Int)) else ((c : Int), (n : Int))) = (r1, r2)) (he : (c = 65533 ∧ n < 3 ∧ x = -1 ∧ y = 1) ∨ (¬ (c = 65533 ∧ n < 3) ∧ x = c ∧ y = n)) :
    Ending.returned (.tuple #[.int .i32 x, .int .i64 y]) = .returned (.tuple #[.int .i32 r1, .int .i64 r2]) := by
  rcases he with ⟨h1, h2, rfl, rfl⟩ | ⟨h1, rfl, rfl⟩
  · rw [if_pos ⟨h1, h2⟩] at h
    simp only [Prod.mk.injEq] at h
    obtain ⟨rfl, rfl⟩ := h
    rfl
  · rw [if_neg h1] at h
    simp only [Prod.mk.injEq] at h
    obtain ⟨rfl, rfl⟩ := h
    rfl
end Go.Proofs.Ytnffgdbkiefinaa.Q
