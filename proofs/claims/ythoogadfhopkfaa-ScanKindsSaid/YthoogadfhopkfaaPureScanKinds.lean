/- ScanKinds: within brackets commas, brackets and colons ahead of them part; without they are of the text. For every input. -/
import Derived.Test.YthoogadfhopkfaaK1
import Derived.Test.YthoogadfhopkfaaQLawScanKinds
namespace Go.Proofs.Ythoogadfhopkfaa.Same
open Go.RowKit Go.Proofs.Ythoogadfhopkfaa.Q Go.Proofs.YthoogadfhopkfaaW.PrintWords Go.Proofs.YthoogadfhopkfaaW.PrintLast Go.Proofs.YthoogadfhopkfaaW.PrintMore Go.Proofs.Ythoogadfhopkfaa.Sc Go.Proofs.Ythoogadfhopkfaa.Rf Go.Proofs.Ythoogadfhopkfaa.Pure
set_option linter.unusedVariables false
set_option linter.unusedSimpArgs false
def Lets (w : List Int) : Prop := ∀ x ∈ w, 97 ≤ x ∧ x ≤ 122
theorem Lets.rd {w : List Int} (h : Lets w) {i : Int} (h0 : 0 ≤ i) (h1 : i < (w.length : Int)) : 97 ≤ rd w i ∧ rd w i ≤ 122 := h _ (rd_mem h0 h1)
theorem Lets.byt {w : List Int} (h : Lets w) : Byt w := fun x hx => by have := h x hx; omega
theorem flow_cases {c : Int} (hf : flow c = true) : c = 44 ∨ c = 91 ∨ c = 93 ∨ c = 123 ∨ c = 125 := by
  simpa only [flow, Bool.or_eq_true, beq_iff_eq, or_assoc] using hf
theorem flow_let {c : Int} (h : 97 ≤ c ∧ c ≤ 122) : flow c = false := by
  rw [Bool.eq_false_iff]
  intro hf
  have := flow_cases hf
  omega
theorem pb_let {c : Int} (h : 97 ≤ c ∧ c ≤ 122) : pb c = true := by
  simp only [pb, Bool.and_eq_true, decide_eq_true_eq, Bool.not_eq_true', Bool.or_eq_false_iff, beq_eq_false_iff_ne, ne_eq]
  omega
theorem one_plain (w : List Int) (c : Int) (hw : Lets w) (h0 : 0 < w.length) (hl : w.length ≤ 20) (hf : flow c = true) : toksO (w ++ [c] ++ w) = some [(⟨15, 0, 2 * (w.length : Int) + 1⟩ : S32)] := by
  have hc := flow_cases hf
  have hB : Byt (w ++ [c] ++ w) := (hw.byt.append (Byt.cons (by omega) (by omega) Byt.nil)).append hw.byt
  have hlen : ((w ++ [c] ++ w).length : Int) = 2 * (w.length : Int) + 1 := by simp; omega
  have r1 : ∀ j : Int, 0 ≤ j → j < (w.length : Int) → rd (w ++ [c] ++ w) j = rd w j := fun j g1 g2 => by
    rw [List.append_assoc, rd_app_l g1 g2]
  have r2 : rd (w ++ [c] ++ w) (w.length : Int) = c := by
    rw [List.append_assoc, rd_app_r' rfl (Int.le_refl _), Int.sub_self]
    rfl
  have r3 : ∀ j : Int, (w.length : Int) < j → rd (w ++ [c] ++ w) j = rd w (j - ((w.length : Int) + 1)) := fun j g1 => by
    rw [rd_app_r' (n := (w.length : Int) + 1) (by simp) (by omega)]
  generalize hb : w ++ [c] ++ w = b at *
  have ra : ∀ j : Int, 0 ≤ j → j < 2 * (w.length : Int) + 1 → (97 ≤ rd b j ∧ rd b j ≤ 122) ∨ rd b j = c := by
    intro j g1 g2
    by_cases e1 : j < (w.length : Int)
    · rw [r1 j g1 e1]; exact .inl (hw.rd g1 e1)
    · by_cases e2 : j = (w.length : Int)
      · rw [e2, r2]; exact .inr rfl
      · rw [r3 j (by omega)]; exact .inl (hw.rd (by omega) (by omega))
  have hp : plainR b 0 0 = 2 * (w.length : Int) + 1 := by
    refine plain_to hB (by omega) (by omega) (by omega) (fun j g1 g2 => by have := ra j g1 g2; omega) (fun j g1 g2 => ?_) (.inl hlen.symm) (.inr ?_)
    · have := ra j (by omega) g2
      exact plStop_no hB (by omega) (by omega) (by omega) (by omega) (by omega) (by omega) (by omega) (.inl (by omega))
    · have := ra (2 * (w.length : Int) + 1 - 1) (by omega) (by omega)
      rw [Bool.eq_false_iff]
      simp only [Sc.blank, ne_eq, Bool.or_eq_true, beq_iff_eq]
      omega
  have hs := step_plain hB (r := rs0) (by decide) (by show (0 : Int) < _; omega) (pb_let (by show 97 ≤ rd b 0 ∧ rd b 0 ≤ 122; rw [r1 0 (by omega) (by omega)]; exact hw.rd (by omega) (by omega)))
  have e : stepR b rs0 = addR 15 (2 * (w.length : Int) + 1) rs0 := by rw [hs, ← hp]; rfl
  have hf := (fine0 b).add 15 (e := 2 * (w.length : Int) + 1) (by show (0 : Int) < _; omega) (by omega)
  exact (toks_by hB (by omega) (EndsR.via (fine0 _) (by show (0 : Int) < _; omega) e (by show (0 : Int) < 2 * (w.length : Int) + 1; omega) (EndsR.stop hf (by show ¬ 2 * (w.length : Int) + 1 < _; omega)))).1
theorem four_toks (w : List Int) (c : Int) (hw : Lets w) (h0 : 0 < w.length) (hl : w.length ≤ 20) (hf : flow c = true) : ∃ k : Int, toksO ([91] ++ w ++ [c] ++ w) = some [(⟨8, 0, 1⟩ : S32), ⟨15, 1, 1 + (w.length : Int)⟩, ⟨k, 1 + (w.length : Int), 2 + (w.length : Int)⟩, ⟨15, 2 + (w.length : Int), 2 + 2 * (w.length : Int)⟩] := by
  have hc := flow_cases hf
  have hB : Byt ([91] ++ w ++ [c] ++ w) := (((Byt.cons (by omega) (by omega) Byt.nil).append hw.byt).append (Byt.cons (by omega) (by omega) Byt.nil)).append hw.byt
  have hlen : (([91] ++ w ++ [c] ++ w).length : Int) = 2 * (w.length : Int) + 2 := by simp; omega
  have r0 : rd ([91] ++ w ++ [c] ++ w) 0 = 91 := rfl
  have r1 : ∀ j : Int, 1 ≤ j → j < 1 + (w.length : Int) → rd ([91] ++ w ++ [c] ++ w) j = rd w (j - 1) := fun j g1 g2 => by
    rw [List.append_assoc, List.append_assoc, rd_app_r' (n := 1) rfl g1, rd_app_l (by omega) (by omega)]
  have r2 : rd ([91] ++ w ++ [c] ++ w) (1 + (w.length : Int)) = c := by
    rw [List.append_assoc, rd_app_r' (n := 1 + (w.length : Int)) (by simp; omega) (Int.le_refl _), Int.sub_self]
    rfl
  have r3 : ∀ j : Int, 1 + (w.length : Int) < j → rd ([91] ++ w ++ [c] ++ w) j = rd w (j - (2 + (w.length : Int))) := fun j g1 => by
    rw [rd_app_r' (n := 2 + (w.length : Int)) (by simp; omega) (by omega)]
  generalize hb : [91] ++ w ++ [c] ++ w = b at *
  have l1 : ∀ j : Int, 1 ≤ j → j < 1 + (w.length : Int) → 97 ≤ rd b j ∧ rd b j ≤ 122 := fun j g1 g2 => by rw [r1 j g1 g2]; exact hw.rd (by omega) (by omega)
  have l3 : ∀ j : Int, 1 + (w.length : Int) < j → j < 2 * (w.length : Int) + 2 → 97 ≤ rd b j ∧ rd b j ≤ 122 := fun j g1 g2 => by rw [r3 j g1]; exact hw.rd (by omega) (by omega)
  have nb : ∀ j : Int, 97 ≤ rd b j ∧ rd b j ≤ 122 → Sc.blank (rd b j) = false := by
    intro j h
    rw [Bool.eq_false_iff]
    simp only [Sc.blank, ne_eq, Bool.or_eq_true, beq_iff_eq]
    omega
  -- the first bracket
  have e1 : stepR b rs0 = withOp 1 (addR 8 1 rs0) := step_open (r := rs0) (by decide) r0
  have f1 := (fine0 b).addOp 8 1 (e := 1) (by decide) (by omega) (by decide) (by decide)
  -- the first word
  generalize hr1 : withOp 1 (addR 8 1 rs0) = s1 at *
  have a1 : s1.at_ = 1 := by rw [← hr1]; rfl
  have o1 : s1.op = 1 := by rw [← hr1]; rfl
  have t1 : s1.l = [(⟨8, 0, 1⟩ : S32)] := by rw [← hr1]; rfl
  have p1 : plainR b s1.op s1.at_ = 1 + (w.length : Int) := by
    rw [a1, o1]
    refine plain_to hB (by omega) (by omega) (by omega) (fun j g1 g2 => by have := l1 j g1 g2; omega) (fun j g1 g2 => ?_) (.inr ?_) (.inr ?_)
    · have := l1 j (by omega) g2
      exact plStop_no hB (by omega) (by omega) (by omega) (by omega) (by omega) (by omega) (by omega) (.inr (flow_let this))
    · exact plStop_flow (by decide) (by rw [r2]; exact hf)
    · exact nb _ (l1 _ (by omega) (by omega))
  have e2 : stepR b s1 = addR 15 (1 + (w.length : Int)) s1 := by rw [step_plain hB (by omega) (by omega) (pb_let (by rw [a1]; exact l1 1 (by omega) (by omega))), p1]
  have f2 := f1.add 15 (e := 1 + (w.length : Int)) (by omega) (by omega)
  generalize hr2 : addR 15 (1 + (w.length : Int)) s1 = s2 at *
  have a2 : s2.at_ = 1 + (w.length : Int) := by rw [← hr2]; rfl
  have o2 : s2.op = 1 := by rw [← hr2]; exact o1
  have t2 : s2.l = [(⟨8, 0, 1⟩ : S32), ⟨15, 1, 1 + (w.length : Int)⟩] := by rw [← hr2]; show s1.l ++ [_] = _; rw [t1, a1]; rfl
  -- what parts
  obtain ⟨k, o, k1, k2, g1, g2, e3⟩ := step_flow (b := b) (r := s2) (by omega) (by omega) (by omega) (by rw [a2, r2]; exact hf)
  rw [show s2.at_ + 1 = 2 + (w.length : Int) by omega] at e3 g2
  have f3 := f2.addOp k o (e := 2 + (w.length : Int)) (by omega) (by omega) g1 g2
  generalize hr3 : withOp o (addR k (2 + (w.length : Int)) s2) = s3 at *
  have a3 : s3.at_ = 2 + (w.length : Int) := by rw [← hr3]; rfl
  have t3 : s3.l = [(⟨8, 0, 1⟩ : S32), ⟨15, 1, 1 + (w.length : Int)⟩, ⟨k, 1 + (w.length : Int), 2 + (w.length : Int)⟩] := by rw [← hr3]; show s2.l ++ [_] = _; rw [t2, a2]; rfl
  -- the second word
  have p3 : plainR b s3.op s3.at_ = 2 + 2 * (w.length : Int) := by
    rw [a3]
    refine plain_to hB (by omega) (by omega) (by omega) (fun j g1 g2 => by have := l3 j (by omega) (by omega); omega) (fun j g1 g2 => ?_) (.inl (by omega)) (.inr ?_)
    · have := l3 j (by omega) (by omega)
      exact plStop_no hB (by omega) (by omega) (by omega) (by omega) (by omega) (by omega) (by omega) (.inr (flow_let this))
    · exact nb _ (l3 _ (by omega) (by omega))
  have e4 : stepR b s3 = addR 15 (2 + 2 * (w.length : Int)) s3 := by rw [step_plain hB (by omega) (by omega) (pb_let (by rw [a3]; exact l3 _ (by omega) (by omega))), p3]
  have f4 := f3.add 15 (e := 2 + 2 * (w.length : Int)) (by omega) (by omega)
  have t4 : (addR 15 (2 + 2 * (w.length : Int)) s3).l = [(⟨8, 0, 1⟩ : S32), ⟨15, 1, 1 + (w.length : Int)⟩, ⟨k, 1 + (w.length : Int), 2 + (w.length : Int)⟩, ⟨15, 2 + (w.length : Int), 2 + 2 * (w.length : Int)⟩] := by show s3.l ++ [_] = _; rw [t3, a3]; rfl
  refine ⟨k, (toks_by hB (by omega) ?_).1⟩
  rw [← t4]
  refine EndsR.via (fine0 _) (by show (0 : Int) < _; omega) e1 (by rw [a1]; decide) ?_
  refine EndsR.via f1 (by omega) e2 (by omega) ?_
  refine EndsR.via f2 (by omega) e3 (by omega) ?_
  exact EndsR.via f3 (by omega) e4 (by show s3.at_ < 2 + 2 * (w.length : Int); omega) (EndsR.stop f4 (by show ¬ 2 + 2 * (w.length : Int) < _; omega))
end Go.Proofs.Ythoogadfhopkfaa.Same
namespace Go.Proofs.Ythoogadfhopkfaa.Pure
open Go.RowKit Go.Proofs.Ythoogadfhopkfaa.Q Go.Proofs.YthoogadfhopkfaaW.PrintWords Go.Proofs.YthoogadfhopkfaaW.PrintLast Go.Proofs.YthoogadfhopkfaaW.PrintMore Go.Proofs.Ythoogadfhopkfaa.Same
set_option linter.unusedVariables false
def signs : List ByteArray := [(⟨#[44]⟩ : ByteArray), (⟨#[93]⟩ : ByteArray), (⟨#[91]⟩ : ByteArray), (⟨#[123]⟩ : ByteArray), (⟨#[125]⟩ : ByteArray)]
theorem signs_are : ∀ k : Nat, k < 5 → ∃ c : Nat, c < 126 ∧ bytesOf (rdOf ByteArray.empty signs (k : Int)) = [(c : Int)] ∧ Sc.flow (c : Int) = true ∧ (rdOf ByteArray.empty signs (k : Int)).size = 1 := by decide +kernel
theorem kinds_end (x0 : ByteArray) (a1 : Int) (hw : Lets (bytesOf x0)) (h0 : 0 < x0.size) (hl : x0.size ≤ 20) (k : Nat) : correctorlaw6_ScanKinds.l0 (k + 1) x0 a1 (x0.size : Int) = some true := by
  obtain ⟨t, ht, g0, g1⟩ := within6 a1 5 (by decide) (by decide)
  obtain ⟨j, rfl⟩ : ∃ j : Nat, t = j := ⟨t.toNat, by omega⟩
  obtain ⟨c, _, hc, hf, hs⟩ := signs_are j (by omega)
  have hn := bytesOf_length x0
  rw [correctorlaw6_ScanKinds.l0, if_neg (by omega)]
  show (correctorlaw6_within.f a1 5).bind _ = _
  rw [ht, Option.bind_some, if_pos g0]
  show (if (j : Int) < 5 then _ else _) = _
  rw [if_pos g1]
  unfold signs at hc hs
  generalize hC : rdOf ByteArray.empty ([(⟨#[44]⟩ : ByteArray), (⟨#[93]⟩ : ByteArray), (⟨#[91]⟩ : ByteArray), (⟨#[123]⟩ : ByteArray), (⟨#[125]⟩ : ByteArray)] : List ByteArray) (j : Int) = C at *
  have z1 : (⟨#[91]⟩ : ByteArray).size = 1 := rfl
  rw [if_pos (by omega), if_pos (by rw [ByteArray.size_append]; omega), if_pos (by rw [ByteArray.size_append, ByteArray.size_append]; omega)]
  have h91 : bytesOf (⟨#[91]⟩ : ByteArray) = [91] := rfl
  have p1 := one_plain (bytesOf x0) (c : Int) hw (by omega) (by omega) hf
  rw [← hc, ← bof_append, ← bof_append] at p1
  have e1 := (show scan_Tokens.f (bytesOf ((x0 ++ C) ++ x0)) = Sc.toksO (bytesOf ((x0 ++ C) ++ x0)) from rfl).trans p1
  obtain ⟨q, hq⟩ := four_toks (bytesOf x0) (c : Int) hw (by omega) (by omega) hf
  rw [← h91, ← hc, ← bof_append, ← bof_append, ← bof_append] at hq
  have e2 := (show scan_Tokens.f (bytesOf ((((⟨#[91]⟩ : ByteArray) ++ x0) ++ C) ++ x0)) = Sc.toksO (bytesOf ((((⟨#[91]⟩ : ByteArray) ++ x0) ++ C) ++ x0)) from rfl).trans hq
  rw [e1, Option.bind_some, if_pos (by omega), if_pos (by rw [ByteArray.size_append]; omega), if_pos (by rw [ByteArray.size_append, ByteArray.size_append]; omega), if_pos (by rw [ByteArray.size_append, ByteArray.size_append, ByteArray.size_append]; omega), e2, Option.bind_some]
  have hw1 : wrap64 (2 + ((bytesOf x0).length : Int) - (1 + ((bytesOf x0).length : Int))) = 1 := by unfold wrap64; omega
  simp [rd_T32, hw1]
theorem kinds_go (x0 : ByteArray) (a1 : Int) (h0 : 0 < x0.size) (hl : x0.size ≤ 20) : ∀ (m i : Nat), x0.size - i ≤ m → i ≤ x0.size → (∀ j : Nat, j < i → 97 ≤ bt x0 (j : Int) ∧ bt x0 (j : Int) ≤ 122) → correctorlaw6_ScanKinds.l0 (m + 1) x0 a1 (i : Int) = some true := by
  have fin : ∀ i : Nat, i = x0.size → (∀ j : Nat, j < i → 97 ≤ bt x0 (j : Int) ∧ bt x0 (j : Int) ≤ 122) → ∀ m : Nat, correctorlaw6_ScanKinds.l0 (m + 1) x0 a1 (i : Int) = some true := by
    intro i hi hall m
    subst hi
    refine kinds_end x0 a1 (fun x hx => ?_) h0 hl m
    obtain ⟨j, hj, rfl⟩ := List.getElem_of_mem hx
    have hn := bytesOf_length x0
    have e : (bytesOf x0)[j] = bt x0 (j : Int) := by
      rw [← rd_bytesOf]
      unfold Go.Proofs.YthoogadfhopkfaaW.PrintWords.rd
      rw [List.getD_eq_getElem?_getD, Int.toNat_natCast, List.getElem?_eq_getElem hj]
      rfl
    rw [e]
    exact hall j (by omega)
  intro m
  induction m with
  | zero => intro i h1 h2 hall; exact fin i (by omega) hall 0
  | succ m ih =>
    intro i h1 h2 hall
    by_cases c : i = x0.size
    · exact fin i c hall (m + 1)
    · rw [correctorlaw6_ScanKinds.l0, if_pos (by omega), if_pos (by omega)]
      by_cases d : bt x0 (i : Int) < 97
      · rw [if_pos d]
      · rw [if_neg d]
        by_cases e : bt x0 (i : Int) > 122
        · rw [if_pos e]
        · rw [if_neg e, show wrap64 ((i : Int) + 1) = ((i + 1 : Nat) : Int) by unfold wrap64; omega]
          refine ih (i + 1) (by omega) (by omega) fun j hj => ?_
          by_cases f : j = i
          · rw [f]; omega
          · exact hall j (by omega)
theorem ScanKinds : correctorlaw6_ScanKinds.Pure := by
  intro a0 a1 _ _
  refine ⟨a0.size + 2, ?_⟩
  unfold correctorlaw6_ScanKinds.f
  rw [known6, Option.bind_some, if_pos rfl]
  by_cases c : a0.toList = ([] : List UInt8)
  · rw [if_pos c, correctorlaw6_ScanKinds.j0, if_pos rfl]
  · rw [if_neg c, correctorlaw6_ScanKinds.j0]
    by_cases d : (a0.size : Int) > 20
    · rw [if_pos (decide_eq_true d)]
    · rw [if_neg (by simpa using d)]
      have h0 : 0 < a0.size := by
        rcases Nat.eq_zero_or_pos a0.size with h | h
        · exact absurd (List.length_eq_zero_iff.mp (by rw [Go.Lib.toList_data, data_length]; exact h)) c
        · exact h
      exact kinds_go a0 a1 h0 (by omega) a0.size 0 (by omega) (by omega) (fun j hj => absurd hj (by omega))
end Go.Proofs.Ythoogadfhopkfaa.Pure
