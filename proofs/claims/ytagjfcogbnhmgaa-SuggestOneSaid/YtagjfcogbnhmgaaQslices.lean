/- Proved here, in the forms of the print's contracts: what each Go function answers, and the rows of the laws over it; by a program and by hand. -/
import Derived.Test.YtagjfcogbnhmgaaQ0
namespace Go.Proofs.Ytagjfcogbnhmgaa.Q
open Go.RowKit Go.Proofs.YtagjfcogbnhmgaaW.PrintWords Go.Proofs.YtagjfcogbnhmgaaW.PrintLast Go.Proofs.YtagjfcogbnhmgaaW.PrintMore
attribute [local go_sem] max2_int min2_int max_two min_two max_three min_three max_four min_four   -- for this text's walks alone
set_option linter.unusedVariables false
set_option linter.unusedSimpArgs false

-- NOT PRINTED: function 44 (api_Token)

/-! ### api_Edit: function 16 (by hand) -/
def api_Edit.f (l0 : List (S30)) : Option (List (S30)) := if l0.length < 4398046511104 then some l0 else none
set_option maxHeartbeats 1000000 in
set_option maxRecDepth 100000 in
theorem api_Edit.calls (A0 : Option Addr) (c0 : Nat) (l0 : List (S30)) (r : List (S30)) (w : World) (hr0 : Kd.C k30 w A0 l0.length l0) (hc0 : l0.length ≤ c0) (h : api_Edit.f l0 = some r) :
    Calls Try.prog 16 #[.slice A0 l0.length c0] w fun e w' => ∃ v0_ : Value, e = .returned (v0_) ∧ Kd.R k30 30 w' w.heap.size (fun _ => True) v0_ r ∧ Below w.heap.size w w' := by
  unfold api_Edit.f at h
  by_cases hl : l0.length < 4398046511104
  · rw [if_pos hl] at h
    obtain rfl := Option.some.inj h
    clear h
    have LM := Aside0.mk hl
    clear hl
    have hz := hr0
    have HR0 := Aside0.mk hr0
    have HC0 := Aside0.mk hc0
    clear hr0 hc0
    cases A0 with
    | none =>
      have h0 : l0 = [] := by
        have h2 := hz.2.2
        rcases l0 with _ | ⟨x, t⟩
        · rfl
        · obtain ⟨ad, e, _⟩ := h2 (by simp)
          cases e
      subst h0
      clear hz
      have he := fun W => Lib.run_eql_slice_nil (P := Try.prog) W
      go_enter Try.func16, Try.ntmps16
      go_wp2
      go_ret
      exact ⟨_, rfl, Kd.R_nil _ _ _ _ _, Below.refl _ _⟩
    | some a =>
      clear hz
      have HB := Aside0.mk (Below.refl w.heap.size w)
      have he := fun W => Lib.run_eql_slice_nil (P := Try.prog) W
      go_enter Try.func16, Try.ntmps16
      go_wp2_with (first | ((with_reducible refine gate_dst (N := 5) rfl ?_); (try (refine gate_guard (by rfl) ?_; dsimp only)); refine Kd.R_lit k30 _ 30 ?hg (N := 5) ?hd (xs := ([] : List (S30))) (inner := []) (ok := fun _ => True) (okp := fun _ => True) ?hr ?hp (fun _ hk => hk) trivial (Below.refl _ _) (Nat.le_refl _) (by simp) ?_; (case hd => rfl); (case hg => rfl); (case hr => first | (go_simp; done) | (go_simp; rfl)); (case hp => exact (Reps.none _ _)); intro v1 w1 ho1 hb hg_ hnew_; clear hg_ hnew_; have HO := Aside0.mk ho1; have HB1 := Aside0.mk hb; clear ho1 hb) | ((with_reducible refine gate_builtin (b := .append) (xs := #[.tmp 5, .tmp 6]) rfl ?_); (try (refine gate_guard (by rfl) ?_; dsimp only)); at_builtin; refine Kd.R_append_rows k30 (w0 := w) w.heap.size rfl (.tmp 5) (.tmp 6) 31 30 (.agg #[(.int .i64 0), (.int .i64 0), (.string ⟨#[]⟩)]) 32 rfl Try.underlying31 info30 rfl (by decide) (by omega) v1 ([] : List (S30)) l0 _ _ _ (fun _ => True) (fun _ => False) rfl rfl ?aO ?aR (fun _ _ h => h) (fun _ h => h.elim) ?aF ?aB ?aS ?aL ?_; (case aR => exact Kd.C_below HR0.out HB1.out); (case aB => exact HB1.out); (case aF => exact (fun _ _ => trivial)); (case aO => exact HO.out); (case aS => exact HB1.out.size); (case aL => have := LM.out; simp only [List.length_nil]; omega); intro v2 w2 ho hb hg hat; rw [List.nil_append] at ho; have HO2 := Aside0.mk ho; have HB2 := Aside0.mk hb; clear ho hb hg hat HO HB1))
      go_ret
      exact ⟨_, rfl, HO2.out, HB2.out⟩
  · rw [if_neg hl] at h
    cases h

end Go.Proofs.Ytagjfcogbnhmgaa.Q
