/- ScanMarks: marks stand at a row's beginning alone, and end brackets. -/
import Derived.Test.YthoogadfhopkfaaS1
import Derived.Test.YthoogadfhopkfaaQLawScanMarks
namespace Go.Proofs.Ythoogadfhopkfaa.Pure
open Go.RowKit Go.Proofs.Ythoogadfhopkfaa.Q Go.Proofs.YthoogadfhopkfaaW.PrintWords Go.Proofs.YthoogadfhopkfaaW.PrintLast Go.Proofs.YthoogadfhopkfaaW.PrintMore
set_option maxRecDepth 100000
/-- The law's loop asks for its second number by what it comes to alone. -/
theorem marks_at (x1 j : Int) (h : correctorlaw6_within.f x1 8 = correctorlaw6_within.f j 8) : ∀ (k : Nat) (x0 : Int) (x5 : ByteArray) (x6 : Int), correctorlaw6_ScanMarks.l0 k x0 x1 x5 x6 = correctorlaw6_ScanMarks.l0 k x0 j x5 x6
  | 0, _, _, _ => by unfold correctorlaw6_ScanMarks.l0; rfl
  | k + 1, x0, x5, x6 => by
    unfold correctorlaw6_ScanMarks.l0
    rw [marks_at x1 j h k, h]
theorem marks_all : ∀ k : Nat, k < 9 → ∀ j : Nat, j < 8 → correctorlaw6_ScanMarks.l0 12 (wrap64 (1 + (k : Int))) (j : Int) (⟨#[]⟩ : ByteArray) 0 = some true := by decide +kernel
theorem within_self : ∀ j : Nat, j < 8 → correctorlaw6_within.f (j : Int) 8 = some (j : Int) := by decide +kernel
theorem ScanMarks : correctorlaw6_ScanMarks.Pure := by
  intro a0 a1 _ _
  obtain ⟨t, ht, h0, h1⟩ := within6 a0 9 (by decide) (by decide)
  obtain ⟨u, hu, g0, g1⟩ := within6 a1 8 (by decide) (by decide)
  obtain ⟨k, rfl⟩ : ∃ k : Nat, t = k := ⟨t.toNat, by omega⟩
  obtain ⟨j, rfl⟩ : ∃ j : Nat, u = j := ⟨u.toNat, by omega⟩
  have hk : k < 9 := by omega
  have hj : j < 8 := by omega
  refine ⟨12, ?_⟩
  unfold correctorlaw6_ScanMarks.f
  rw [known6, Option.bind_some, if_pos rfl, ht, Option.bind_some, marks_at a1 j (hu.trans (within_self j hj).symm)]
  exact marks_all k hk j hj
end Go.Proofs.Ythoogadfhopkfaa.Pure
