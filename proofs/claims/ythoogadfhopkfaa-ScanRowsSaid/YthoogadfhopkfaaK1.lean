/- Texts of few shapes: the reference's steps upon them. No program in it. -/
import Derived.Test.YthoogadfhopkfaaPM
import Derived.Test.YthoogadfhopkfaaS1
namespace Go.Proofs.Ythoogadfhopkfaa.Same
open Go.RowKit Go.Proofs.Ythoogadfhopkfaa.Q Go.Proofs.YthoogadfhopkfaaW.PrintWords Go.Proofs.YthoogadfhopkfaaW.PrintLast Go.Proofs.YthoogadfhopkfaaW.PrintMore Go.Proofs.Ythoogadfhopkfaa.Sc Go.Proofs.Ythoogadfhopkfaa.Rf Go.Proofs.Ythoogadfhopkfaa.Pure
set_option linter.unusedVariables false
set_option linter.unusedSimpArgs false
theorem bof_byt (s : ByteArray) : Byt (bytesOf s) := fun x hx => by
  unfold bytesOf at hx
  obtain ⟨y, _, rfl⟩ := List.mem_map.mp hx
  have := y.toNat_lt
  omega
theorem bof_append (s t : ByteArray) : bytesOf (s ++ t) = bytesOf s ++ bytesOf t := by
  unfold bytesOf
  rw [ByteArray.data_append, Array.toList_append, List.map_append]
theorem rd_app_l {u v : List Int} {i : Int} (h0 : 0 ≤ i) (h : i < (u.length : Int)) : rd (u ++ v) i = rd u i := by
  unfold Go.Proofs.YthoogadfhopkfaaW.PrintWords.rd
  rw [List.getD_eq_getElem?_getD, List.getD_eq_getElem?_getD, List.getElem?_append_left (by omega)]
theorem rd_app_r {u v : List Int} {i : Int} (h0 : 0 ≤ i) : rd (u ++ v) ((u.length : Int) + i) = rd v i := by
  unfold Go.Proofs.YthoogadfhopkfaaW.PrintWords.rd
  rw [List.getD_eq_getElem?_getD, List.getD_eq_getElem?_getD, List.getElem?_append_right (by omega), show ((u.length : Int) + i).toNat - u.length = i.toNat by omega]
theorem rd_app_r' {u v : List Int} {i n : Int} (hn : n = (u.length : Int)) (h : n ≤ i) : rd (u ++ v) i = rd v (i - n) := by
  rw [show i = (u.length : Int) + (i - n) by omega, rd_app_r (by omega), show (u.length : Int) + (i - n) - n = i - n by omega]
theorem rd_rep (n : Nat) (i : Int) : rd (List.replicate n 0) i = 0 := by
  unfold Go.Proofs.YthoogadfhopkfaaW.PrintWords.rd
  rw [List.getD_eq_getElem?_getD, List.getElem?_replicate]
  split <;> rfl
theorem rd_mem {w : List Int} {i : Int} (h0 : 0 ≤ i) (h : i < (w.length : Int)) : rd w i ∈ w := by
  unfold Go.Proofs.YthoogadfhopkfaaW.PrintWords.rd
  rw [List.getD_eq_getElem?_getD, List.getElem?_eq_getElem (by omega)]
  exact List.getElem_mem _
theorem fine0 (b : List Int) : Fine b rs0 := (start_rel b).2
theorem toks_by {b : List Int} (hB : Byt b) (hl : (b.length : Int) ≤ 16384) {L : List S32} (h : EndsR b rs0 L) : toksO b = some L ∧ toksR b = some L := by
  obtain ⟨M, h1, h2, _⟩ := toks_same b hB
  have e : toksR b = some L := by
    unfold toksR
    obtain ⟨t, e2, f2⟩ := h (b.length + 1) (by show (b.length : Int) - 0 < _; omega)
    rw [if_neg (by omega), if_pos (byt_bytB hB), e2, ← f2]
    rfl
  rw [h2] at e
  exact ⟨h1.trans e, h2.trans e⟩
theorem colon_none {b : List Int} {op i : Int} (h : rd b i ≠ 58) : colon b op i = false := by simp [colon, th, h]
theorem plStop_no {b : List Int} (hB : Byt b) {op i : Int} (h0 : 0 ≤ i) (h1 : i < (b.length : Int)) (c : rd b i < 128) (n13 : rd b i ≠ 13) (n10 : rd b i ≠ 10) (n58 : rd b i ≠ 58) (n35 : rd b i ≠ 35) (nf : op ≤ 0 ∨ flow (rd b i) = false) : plStop b op i = false := by
  have hs : nx (b.drop i.toNat) = (rd b i, 1) := sg_low h0 h1 c
  have hb := hB.rd i
  unfold plStop
  rw [hs, colon_none n58, brk_none n13 n10]
  have e1 : decide (rd b i < 0) = false := decide_eq_false (by omega)
  have e2 : (rd b i == 35) = false := by simpa using n35
  have e3 : (decide (op > 0) && flow (rd b i)) = false := by
    rcases nf with h | h
    · rw [decide_eq_false (by omega)]; rfl
    · rw [h, Bool.and_false]
  simp only [e1, e2, e3]
  rfl
theorem plStop_flow {b : List Int} {op i : Int} (ho : op > 0) (hf : flow (rd b i) = true) : plStop b op i = true := by
  unfold plStop
  simp [ho, hf]
theorem plR_skip {b : List Int} {op : Int} : ∀ (d k : Nat) (i : Int), (∀ j, i ≤ j → j < i + d → 0 ≤ j ∧ j < (b.length : Int) ∧ rd b j < 128 ∧ plStop b op j = false) → plR b op (k + d) i = plR b op k (i + d)
  | 0, k, i, h => by rw [Nat.add_zero, Int.natCast_zero, Int.add_zero]
  | d + 1, k, i, h => by
    obtain ⟨h0, h1, h2, h3⟩ := h i (Int.le_refl _) (by omega)
    have hs : nx (b.drop i.toNat) = (rd b i, 1) := sg_low h0 h1 h2
    rw [show k + (d + 1) = (k + d) + 1 by omega]
    simp only [plR]
    rw [if_pos h1, if_neg (by rw [h3]; decide), hs, plR_skip d k (i + 1) (fun j g1 g2 => h j (by omega) (by omega)), show i + 1 + (d : Int) = i + ((d + 1 : Nat) : Int) by omega]
theorem plain_to {b : List Int} (hB : Byt b) {op i e : Int} (h0 : 0 ≤ i) (h1 : i < e) (h2 : e ≤ (b.length : Int)) (hc : ∀ j, i ≤ j → j < e → rd b j < 128) (hs : ∀ j, i < j → j < e → plStop b op j = false)
    (he : e = (b.length : Int) ∨ plStop b op e = true) (hbl : e = i + 1 ∨ Sc.blank (rd b (e - 1)) = false) : plainR b op i = e := by
  have hn : nx (b.drop i.toNat) = (rd b i, 1) := sg_low h0 (by omega) (hc i (Int.le_refl _) h1)
  unfold plainR
  rw [hn]
  show trimR b (i + 1) (plR b op ((b.length : Int) - (i + 1)).toNat (i + 1) - (i + 1)).toNat (plR b op ((b.length : Int) - (i + 1)).toNat (i + 1)) = e
  have hp : plR b op ((b.length : Int) - (i + 1)).toNat (i + 1) = e := by
    rw [show ((b.length : Int) - (i + 1)).toNat = ((b.length : Int) - e).toNat + (e - (i + 1)).toNat by omega]
    rw [plR_skip _ _ _ (fun j g1 g2 => ⟨by omega, by omega, hc j (by omega) (by omega), hs j (by omega) (by omega)⟩), show i + 1 + (((e - (i + 1)).toNat : Nat) : Int) = e by omega]
    cases hk : ((b.length : Int) - e).toNat with
    | zero => rfl
    | succ k =>
      simp only [plR]
      have hst := he.resolve_left (by omega)
      rw [if_pos (by omega), if_pos hst]
  rw [hp]
  exact Tr.stop (hbl.elim (fun h => .inl (by omega)) .inr) _ (by omega)
/-- Bytes that begin a plain text. -/
def pb (c : Int) : Bool := decide (c < 128) && !(c == 10 || c == 13 || c == 32 || c == 9 || c == 35 || c == 91 || c == 123 || c == 93 || c == 125 || c == 44 || c == 45 || c == 46 || c == 58 || c == 38 || c == 42 || c == 33 || c == 39 || c == 34 || c == 124 || c == 62)
theorem step_plain {b : List Int} (hB : Byt b) {r : RSt} (h0 : 0 ≤ r.at_) (hlt : r.at_ < (b.length : Int)) (hp : pb (rd b r.at_) = true) : stepR b r = addR 15 (plainR b r.op r.at_) r := by
  have hb := hB.rd r.at_
  simp only [pb, Bool.and_eq_true, decide_eq_true_eq, Bool.not_eq_true', Bool.or_eq_false_iff, beq_eq_false_iff_ne, ne_eq] at hp
  obtain ⟨hc, ⟨⟨⟨⟨⟨⟨⟨⟨⟨⟨⟨⟨⟨⟨⟨⟨⟨⟨⟨n10, n13⟩, n32⟩, n9⟩, n35⟩, n91⟩, n123⟩, n93⟩, n125⟩, n44⟩, n45⟩, n46⟩, n58⟩, n38⟩, n42⟩, n33⟩, n39⟩, n34⟩, n124⟩, n62⟩⟩ := hp
  have hm : ¬ markOf b r > 0 := by
    unfold markOf
    split
    · rcases markR_cases b r.at_ h0 with h | ⟨_, _, h⟩ <;> omega
    · omega
  have hs : spaceS b r = none := by
    unfold spaceS
    rw [if_neg (by rw [brk_none n13 n10]; omega), if_neg (fun h => n32 h.2), if_neg (by simp [Sc.blank, n32, n9]), if_neg (fun h => n35 h.1)]
  have hbr : bracketS b r = none := by
    unfold bracketS
    rw [if_neg n91, if_neg n123, if_neg n93, if_neg n125, if_neg (fun h => n44 h.1)]
  rw [stepR_word hm hs hbr]
  have hn : nx (b.drop r.at_.toNat) = (rd b r.at_, 1) := sg_low h0 hlt hc
  have hh : headR b r.op r.at_ = 0 := by unfold headR; rw [if_pos (.inl ⟨n124, n62⟩)]
  unfold wordS
  rw [if_neg (fun h => n45 h.1), if_neg (by rw [colon_none n58]; decide), if_neg (fun h => n38 h.1), if_neg (fun h => n42 h.1), if_neg n33, if_neg n39, if_neg n34, hh, if_neg (by omega), hn, if_neg (by simp only; omega)]
theorem step_open {b : List Int} {r : RSt} (h0 : 0 ≤ r.at_) (hp : rd b r.at_ = 91) : stepR b r = withOp (r.op + 1) (addR 8 (r.at_ + 1) r) := by
  have hm : ¬ markOf b r > 0 := by
    unfold markOf
    split
    · rcases markR_cases b r.at_ h0 with h | ⟨_, _, h⟩ <;> omega
    · omega
  have hs : spaceS b r = none := by
    unfold spaceS
    rw [if_neg (by rw [brk_none (by omega) (by omega)]; omega), if_neg (fun h => by omega), if_neg (by rw [hp]; decide), if_neg (fun h => by omega)]
  refine stepR_bra hm hs ?_
  unfold bracketS
  rw [if_pos hp]
theorem step_flow {b : List Int} {r : RSt} (h0 : 0 ≤ r.at_) (ho : 0 < r.op) (hoa : r.op ≤ r.at_) (hf : flow (rd b r.at_) = true) : ∃ k o : Int, 7 ≤ k ∧ k ≤ 11 ∧ 0 ≤ o ∧ o ≤ r.at_ + 1 ∧ stepR b r = withOp o (addR k (r.at_ + 1) r) := by
  have hf2 : rd b r.at_ = 44 ∨ rd b r.at_ = 91 ∨ rd b r.at_ = 93 ∨ rd b r.at_ = 123 ∨ rd b r.at_ = 125 := by
    simpa only [flow, Bool.or_eq_true, beq_iff_eq, or_assoc] using hf
  have hm : ¬ markOf b r > 0 := by
    unfold markOf
    split
    · rcases markR_cases b r.at_ h0 with h | ⟨_, _, h⟩ <;> omega
    · omega
  have hs : spaceS b r = none := by
    unfold spaceS
    rw [if_neg (by rw [brk_none (by omega) (by omega)]; omega), if_neg (fun h => by omega), if_neg (by simp only [Sc.blank, Bool.or_eq_true, beq_iff_eq]; omega), if_neg (fun h => by omega)]
  have hx : 0 ≤ mx (r.op - 1) 0 ∧ mx (r.op - 1) 0 ≤ r.at_ + 1 := by
    unfold mx
    split <;> omega
  rcases hf2 with e | e | e | e | e
  · refine ⟨7, r.op, by omega, by omega, by omega, by omega, stepR_bra hm hs ?_⟩
    unfold bracketS
    rw [if_neg (by omega), if_neg (by omega), if_neg (by omega), if_neg (by omega), if_pos ⟨e, ho⟩]
    rfl
  · exact ⟨8, r.op + 1, by omega, by omega, by omega, by omega, step_open h0 e⟩
  · refine ⟨10, mx (r.op - 1) 0, by omega, by omega, hx.1, hx.2, stepR_bra hm hs ?_⟩
    unfold bracketS
    rw [if_neg (by omega), if_neg (by omega), if_pos e]
  · refine ⟨9, r.op + 1, by omega, by omega, by omega, by omega, stepR_bra hm hs ?_⟩
    unfold bracketS
    rw [if_neg (by omega), if_pos e]
  · refine ⟨11, mx (r.op - 1) 0, by omega, by omega, hx.1, hx.2, stepR_bra hm hs ?_⟩
    unfold bracketS
    rw [if_neg (by omega), if_neg (by omega), if_neg (by omega), if_pos e]
theorem EndsR.via {b : List Int} {s t : RSt} {L : List S32} (ok : Fine b s) (h : s.at_ < (b.length : Int)) (e : stepR b s = t) (hg : s.at_ < t.at_) (he : EndsR b t L) : EndsR b s L := EndsR.step ok h (by rw [e]; exact hg) (by rw [e]; exact he)
end Go.Proofs.Ythoogadfhopkfaa.Same
