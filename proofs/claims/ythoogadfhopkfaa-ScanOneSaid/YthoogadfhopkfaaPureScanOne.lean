/- ScanOne: each of the texts is one token of its kind. -/
import Derived.Test.YthoogadfhopkfaaS1
import Derived.Test.YthoogadfhopkfaaQLawScanOne
namespace Go.Proofs.Ythoogadfhopkfaa.Pure
open Go.RowKit Go.Proofs.Ythoogadfhopkfaa.Q Go.Proofs.YthoogadfhopkfaaW.PrintWords Go.Proofs.YthoogadfhopkfaaW.PrintLast Go.Proofs.YthoogadfhopkfaaW.PrintMore
set_option maxRecDepth 100000
theorem ScanOne : correctorlaw6_ScanOne.Pure := by
  intro a0 _
  obtain ⟨t, ht, h0, h1⟩ := within6 a0 28 (by decide) (by decide)
  obtain ⟨k, rfl⟩ : ∃ k : Nat, t = k := ⟨t.toNat, by omega⟩
  have hk : k < 28 := by omega
  unfold correctorlaw6_ScanOne.f
  rw [known6]
  simp only [Option.bind_some, if_true]
  have ht' : ∀ n : Int, n = 28 → correctorlaw6_within.f a0 n = some (k : Int) := fun n hn => by rw [hn]; exact ht
  rw [ht']
  · clear ht ht' h0 h1
    revert hk
    revert k
    decide +kernel
  · rfl
end Go.Proofs.Ythoogadfhopkfaa.Pure
