/- ScanLong: of more than 2^14 bytes there are no tokens; of as many or fewer naught bytes one. For every input. -/
import Derived.Test.YthoogadfhopkfaaK1
import Derived.Test.YthoogadfhopkfaaQLawScanLong
namespace Go.Proofs.Ythoogadfhopkfaa.Same
open Go.RowKit Go.Proofs.Ythoogadfhopkfaa.Q Go.Proofs.YthoogadfhopkfaaW.PrintWords Go.Proofs.YthoogadfhopkfaaW.PrintLast Go.Proofs.YthoogadfhopkfaaW.PrintMore Go.Proofs.Ythoogadfhopkfaa.Sc Go.Proofs.Ythoogadfhopkfaa.Rf Go.Proofs.Ythoogadfhopkfaa.Pure
theorem rep_byt (n : Nat) : Byt (List.replicate n 0) := fun x hx => by
  rw [List.eq_of_mem_replicate hx]
  omega
theorem rep_toks (n : Nat) (h0 : 0 < n) (h1 : n ≤ 16384) : toksO (List.replicate n 0) = some [(⟨15, 0, (n : Int)⟩ : S32)] := by
  have hB := rep_byt n
  have hlen : ((List.replicate n (0 : Int)).length : Int) = n := by rw [List.length_replicate]
  have hp : plainR (List.replicate n 0) 0 0 = n := by
    refine plain_to hB (by omega) (by omega) (by omega) (fun j _ _ => by rw [rd_rep]; omega) (fun j g1 g2 => ?_) (.inl hlen.symm) (.inr (by rw [rd_rep]; decide))
    refine plStop_no hB (by omega) (by omega) ?_ ?_ ?_ ?_ ?_ (.inl (by omega)) <;> rw [rd_rep] <;> decide
  have hs := step_plain (b := List.replicate n 0) hB (r := rs0) (by decide) (by show (0 : Int) < _; omega) (by rw [rd_rep]; decide)
  have e : stepR (List.replicate n 0) rs0 = addR 15 (n : Int) rs0 := by rw [hs, ← hp]; rfl
  have hf := (fine0 (List.replicate n 0)).add 15 (e := (n : Int)) (by show (0 : Int) < _; omega) (by omega)
  exact (toks_by hB (by omega) (EndsR.via (fine0 _) (by show (0 : Int) < _; omega) e (by show (0 : Int) < n; omega) (EndsR.stop hf (by show ¬ (n : Int) < _; omega)))).1
end Go.Proofs.Ythoogadfhopkfaa.Same
namespace Go.Proofs.Ythoogadfhopkfaa.Pure
open Go.RowKit Go.Proofs.Ythoogadfhopkfaa.Q Go.Proofs.YthoogadfhopkfaaW.PrintWords Go.Proofs.YthoogadfhopkfaaW.PrintLast Go.Proofs.YthoogadfhopkfaaW.PrintMore Go.Proofs.Ythoogadfhopkfaa.Same
theorem ScanLong : correctorlaw6_ScanLong.Pure := by
  intro a0 _
  obtain ⟨t, ht, h0, h1⟩ := within6 a0 7 (by decide) (by decide)
  have hw : wrap64 (16381 + t) = 16381 + t := by unfold wrap64; omega
  unfold correctorlaw6_ScanLong.f
  rw [known6, Option.bind_some, if_pos rfl, ht, Option.bind_some, hw, if_pos (by omega), if_pos (by omega)]
  obtain ⟨n, hn⟩ : ∃ n : Nat, 16381 + t = n := ⟨(16381 + t).toNat, by omega⟩
  rw [hn, Int.toNat_natCast]
  by_cases c : (n : Int) > 16384
  · have e : scan_Tokens.f (List.replicate n 0) = some [] := by
      show Sc.toksO _ = _
      unfold Sc.toksO
      rw [if_pos (by rw [List.length_replicate]; exact c)]
    rw [e, Option.bind_some, if_pos c]
    rfl
  · have e : scan_Tokens.f (List.replicate n 0) = _ := rep_toks n (by omega) (by omega)
    rw [e, Option.bind_some, if_neg c, if_pos (by omega)]
    simp [rd_T32]
end Go.Proofs.Ythoogadfhopkfaa.Pure
