/- QuoteBad: an escape that is none leaves its backslash, and its place is told. For every input. -/
import Derived.Test.YtabdoommjdgogaaD4
import Derived.Test.YtabdoommjdgogaaQLawQuoteBad
namespace Go.Proofs.Ytabdoommjdgogaa.Pure
open Go.RowKit Go.Proofs.Ytabdoommjdgogaa.Q Go.Proofs.YtabdoommjdgogaaW.PrintWords Go.Proofs.YtabdoommjdgogaaW.PrintLast
set_option linter.unusedVariables false
set_option linter.unusedSimpArgs false
/-- What is written for a sign of the row, and what it says. -/
def eb : List Bool → List Int
  | [] => []
  | b :: t => (if b then [92, 113] else [92, 110]) ++ eb t
def wb : List Bool → List Int
  | [] => []
  | b :: t => (if b then [92, 113] else [10]) ++ wb t
def bads : List Bool → Nat → List Int
  | [], _ => []
  | b :: t, p => if b then (p : Int) :: bads t (p + 2) else bads t (p + 2)
theorem eb_snoc (l : List Bool) (b : Bool) : eb (l ++ [b]) = eb l ++ (if b then [92, 113] else [92, 110]) := by
  induction l with
  | nil => simp [eb]
  | cons c t ih => rw [List.cons_append, eb, ih, eb, List.append_assoc]
theorem wb_snoc (l : List Bool) (b : Bool) : wb (l ++ [b]) = wb l ++ (if b then [92, 113] else [10]) := by
  induction l with
  | nil => simp [wb]
  | cons c t ih => rw [List.cons_append, wb, ih, wb, List.append_assoc]
theorem eb_len (l : List Bool) : (eb l).length = 2 * l.length := by
  induction l with
  | nil => rfl
  | cons b t ih => rw [eb, List.length_append, ih, List.length_cons]; cases b <;> simp <;> omega
theorem bads_len (l : List Bool) : ∀ p q, (bads l p).length = (bads l q).length := by
  induction l with
  | nil => intro p q; rfl
  | cons b t ih =>
    intro p q
    rw [bads, bads]
    cases b
    · exact ih _ _
    · show (bads t (p + 2)).length + 1 = (bads t (q + 2)).length + 1
      rw [ih]
theorem bads_snoc (l : List Bool) (b : Bool) : ∀ p, (bads (l ++ [b]) p).length = (bads l p).length + (if b then 1 else 0) := by
  induction l with
  | nil => intro p; cases b <;> rfl
  | cons c t ih =>
    intro p
    rw [List.cons_append, bads, bads]
    cases c
    · exact ih _
    · show (bads (t ++ [b]) (p + 2)).length + 1 = (bads t (p + 2)).length + 1 + _
      rw [ih]
      omega
theorem bads_le (l : List Bool) : ∀ p, (bads l p).length ≤ l.length := by
  induction l with
  | nil => intro p; exact Nat.le_refl _
  | cons c t ih =>
    intro p
    have := ih (p + 2)
    rw [bads]
    cases c
    · exact Nat.le_succ_of_le this
    · exact Nat.succ_le_succ this
theorem bads_mem (l : List Bool) : ∀ (p : Nat) (x : Int), x ∈ bads l p → ∃ y : Nat, x = (y : Int) ∧ p ≤ y ∧ y + 2 ≤ p + 2 * l.length ∧ (eb l).getD (y - p) 0 = 92 := by
  induction l with
  | nil => intro p x hx; cases hx
  | cons b t ih =>
    intro p x hx
    have go (h : x ∈ bads t (p + 2)) : ∃ y : Nat, x = (y : Int) ∧ p ≤ y ∧ y + 2 ≤ p + 2 * (b :: t).length ∧ (eb (b :: t)).getD (y - p) 0 = 92 := by
      obtain ⟨y, h1, h2, h3, h4⟩ := ih (p + 2) x h
      refine ⟨y, h1, by omega, by rw [List.length_cons]; omega, ?_⟩
      rw [eb, show y - p = (y - (p + 2)) + 2 by omega]
      cases b <;> exact h4
    rw [bads] at hx
    cases b
    · exact go hx
    · rcases List.mem_cons.1 hx with rfl | h
      · refine ⟨p, rfl, Nat.le_refl _, by rw [List.length_cons]; omega, ?_⟩
        rw [eb, Nat.sub_self]
        rfl
      · exact go h
theorem bads_inc (l : List Bool) : ∀ p, (bads l p).Pairwise (· < ·) := by
  induction l with
  | nil => intro p; exact List.Pairwise.nil
  | cons b t ih =>
    intro p
    rw [bads]
    cases b
    · exact ih _
    · refine List.Pairwise.cons (fun x hx => ?_) (ih _)
      obtain ⟨y, rfl, h, _⟩ := bads_mem t _ _ hx
      omega
theorem read_bads (w : ByteArray) (l : List Bool) : ∀ (n i : Nat), (bs w).drop i = eb l ++ [34] → w.size ≤ i + n → dq w n i = (wb l, bads l i, true) := by
  induction l with
  | nil =>
    intro n i hd hn
    have hi : i < w.size := by
      by_cases h : i < w.size
      · exact h
      · rw [drop_end w i (by omega)] at hd; cases hd
    obtain ⟨n, rfl⟩ : ∃ m, n = m + 1 := ⟨n - 1, by omega⟩
    rw [drop_bt w i hi] at hd
    have h34 : bt w (i : Int) = 34 := (List.cons.inj hd).1
    rw [dq, if_pos hi, if_pos h34]
    rfl
  | cons b t ih =>
    intro n i hd hn
    have hlen := congrArg List.length hd
    rw [List.length_drop, bs_len, List.length_append, eb_len] at hlen
    simp only [List.length_cons, List.length_nil] at hlen
    have hi : i < w.size := by omega
    have hi1 : i + 1 < w.size := by omega
    obtain ⟨n, rfl⟩ : ∃ m, n = m + 2 := ⟨n - 2, by omega⟩
    have hd2 := hd
    rw [drop_bt w i hi, drop_bt w (i + 1) hi1] at hd2
    have hu : bs (w.extract i w.size) = eb (b :: t) ++ [34] := by rw [bs_drop, hd]
    cases b
    · have he : esc (w.extract i w.size) = (⟨#[10]⟩, 2) := esc_two _ 110 _ _ hu rfl
      have h92 : bt w (i : Int) = 92 := (List.cons.inj hd2).1
      have hdrop : (bs w).drop (i + 2) = eb t ++ [34] := (List.cons.inj (List.cons.inj hd2).2).2
      rw [dq, if_pos hi, if_neg (by omega), he]
      simp only
      rw [if_neg (by decide), show (2 : Int).toNat = 2 from rfl, ih (n + 1) (i + 2) hdrop (by omega)]
      rfl
    · have h92 : bt w (i : Int) = 92 := (List.cons.inj hd2).1
      have h113 : bt w ((i + 1 : Nat) : Int) = 113 := (List.cons.inj (List.cons.inj hd2).2).1
      have hdrop : (bs w).drop (i + 1 + 1) = eb t ++ [34] := (List.cons.inj (List.cons.inj hd2).2).2
      have he : (esc (w.extract i w.size)).2 = 0 := by
        have hz := bs_size _ _ hu
        have b0 : bt (w.extract i w.size) 0 = 92 := bt_at_list _ _ hu 0
        have b1 : bt (w.extract i w.size) 1 = 113 := bt_at_list _ _ hu 1
        unfold esc
        rw [if_neg (by rw [List.length_append, eb_len] at hz; simp only [List.length_cons, List.length_nil] at hz; omega), b1]
        rfl
      have hne : (esc (w.extract (i + 1) w.size)).2 = 0 := (esc_cases _).resolve_right fun h => by
        have := h.2.2.2
        rw [bt_tail w (i + 1) hi1] at this
        omega
      rw [dq, if_pos hi, if_neg (by omega), if_pos he, dq, if_pos hi1, if_neg (by omega), if_pos hne, ih n (i + 1 + 1) hdrop (by omega)]
      simp only
      rw [if_pos h92, if_neg (by omega), h92, h113]
      rfl
theorem wb_byt (l : List Bool) : Byt (wb l) := by
  induction l with
  | nil => exact Byt.nil
  | cons b t ih =>
    rw [wb]
    cases b
    · exact Byt.cons (by decide) (by decide) ih
    · exact Byt.cons (by decide) (by decide) (Byt.cons (by decide) (by decide) ih)
/-- The law's last loop. -/
theorem bad_loop (s : ByteArray) (l : List Int) (hl : l.length ≤ 100) (hs : s.size ≤ 1000) (hm : ∀ i : Nat, i < l.length → 1 ≤ rd l (i : Int) ∧ rd l (i : Int) < s.size ∧ bt s (rd l (i : Int)) = 92)
    (hp : ∀ i : Nat, i + 1 < l.length → rd l (i : Int) < rd l ((i + 1 : Nat) : Int)) (d : Nat) : ∀ (k n : Nat), n + d = l.length → d < k → correctorlaw7_QuoteBad.l1 k s l (n : Int) = some true := by
  induction d with
  | zero =>
    intro k n hn hk
    obtain ⟨k, rfl⟩ : ∃ m, k = m + 1 := ⟨k - 1, by omega⟩
    rw [correctorlaw7_QuoteBad.l1, if_neg (by omega)]
  | succ d ih =>
    intro k n hn hk
    obtain ⟨k, rfl⟩ : ∃ m, k = m + 1 := ⟨k - 1, by omega⟩
    obtain ⟨h1, h2, h3⟩ := hm n (by omega)
    rw [correctorlaw7_QuoteBad.l1, if_pos (by omega), if_pos (by omega), if_neg (by omega), if_neg (by omega), if_pos (by omega), if_pos (by omega), if_pos h3, w64 (x := (n : Int) + 1) (by omega) (by omega), show (n : Int) + 1 = ((n + 1 : Nat) : Int) by omega]
    have next := ih k (n + 1) (by omega) (by omega)
    by_cases c : n = 0
    · rw [if_neg (by omega)]
      exact next
    · have h4 := hp (n - 1) (by omega)
      rw [show n - 1 + 1 = n by omega] at h4
      rw [if_pos (by omega), w64 (by omega) (by omega), show (n : Int) - 1 = ((n - 1 : Nat) : Int) by omega, if_pos (by omega), if_pos (by omega), if_neg (by omega)]
      exact next
theorem bad_end (L : List Bool) (hL : L.length ≤ 20) (k : Nat) (hk : 1000 < k) (row : List Bool) (i : Int) (s w : ByteArray) (hs : bs s = 34 :: eb L) (hw : bs w = wb L) :
    correctorlaw7_QuoteBad.j1 k row s w ((bads L 1).length : Int) i false = some true := by
  obtain ⟨k, rfl⟩ : ∃ m, k = m + 2 := ⟨k - 2, by omega⟩
  have hz := bs_size _ _ hs
  have he := eb_len L
  simp only [List.length_cons] at hz
  have hs2 : bs (s ++ (⟨#[34]⟩ : ByteArray)) = 34 :: (eb L ++ [34]) := by rw [bs_append, hs]; rfl
  have hz2 : (s ++ (⟨#[34]⟩ : ByteArray)).size = s.size + 1 := by rw [ByteArray.size_append]; rfl
  have hq : qt 17 (s ++ (⟨#[34]⟩ : ByteArray)) = (w, bads L 1, true) := by
    unfold qt
    rw [if_neg (by omega), if_neg (by decide), if_neg (by decide), if_pos rfl, read_bads _ L _ 1 (by rw [hs2]; rfl) (by omega), ← hw, nums_bs]
  have hb := bads_le L 1
  rw [correctorlaw7_QuoteBad.j1, if_neg Bool.false_ne_true, if_pos (by omega), text_eq _ 17 _ (by omega) (by omega), Option.bind_some, hq]
  simp only
  have at_ (i : Nat) (h : i < (bads L 1).length) : rd (bads L 1) (i : Int) = (bads L 1)[i] := by
    unfold Go.Proofs.YtabdoommjdgogaaW.PrintWords.rd
    rw [Int.toNat_natCast, List.getD_eq_getElem?_getD, List.getElem?_eq_getElem h]
    rfl
  rw [if_pos trivial, if_pos trivial, correctorlaw7_QuoteBad.j2, if_neg (by decide)]
  refine bad_loop s (bads L 1) (by omega) (by omega) (fun i hi => ?_) (fun i hi => ?_) _ _ 0 (Nat.zero_add _) (by omega)
  · rw [at_ i hi]
    obtain ⟨y, h1, h2, h3, h4⟩ := bads_mem L 1 _ (List.getElem_mem hi)
    rw [h1]
    refine ⟨by omega, by omega, ?_⟩
    rw [bt_at_list s _ hs y, show y = (y - 1) + 1 by omega]
    exact h4
  · rw [at_ i (by omega), at_ (i + 1) hi]
    exact List.pairwise_iff_getElem.1 (bads_inc L 1) i (i + 1) (by omega) hi (by omega)
theorem take_next (l : List Bool) (n : Nat) (h : n < l.length) : l.take (n + 1) = l.take n ++ [rdOf false l (n : Int)] := by
  unfold Go.Proofs.YtabdoommjdgogaaW.PrintWords.rdOf
  rw [Int.toNat_natCast, List.getD_eq_getElem?_getD, List.getElem?_eq_getElem h]
  exact List.take_succ_eq_append_getElem h
theorem bad_go (l : List Bool) (d : Nat) : ∀ (k n : Nat) (s w : ByteArray), n + d = 20 → n ≤ l.length → 1100 + 2 * d < k → bs s = 34 :: eb (l.take n) → bs w = wb (l.take n) → w.size ≤ 2 * n →
    correctorlaw7_QuoteBad.l0 k l s w ((bads (l.take n) 1).length : Int) (n : Int) = some true := by
  induction d with
  | zero =>
    intro k n s w hn hl hk hs hw hz
    obtain ⟨k, rfl⟩ : ∃ m, k = m + 1 := ⟨k - 1, by omega⟩
    have fin := bad_end (l.take n) (by rw [List.length_take]; omega) k (by omega) l (n : Int) s w hs hw
    rw [correctorlaw7_QuoteBad.l0, decide_eq_false (by omega)]
    split <;> exact fin
  | succ d ih =>
    intro k n s w hn hl hk hs hw hz
    obtain ⟨k, rfl⟩ : ∃ m, k = m + 2 := ⟨k - 2, by omega⟩
    rw [correctorlaw7_QuoteBad.l0]
    by_cases c : (n : Int) < (l.length : Int)
    · have hz1 := bs_size _ _ hs
      have hb := bads_le (l.take n) 1
      have ht : (l.take n).length = n := by rw [List.length_take]; omega
      rw [List.length_cons, eb_len, ht] at hz1
      have tn := take_next l n (by omega)
      have hbn := bads_snoc (l.take n) (rdOf false l (n : Int)) 1
      rw [← tn] at hbn
      rw [if_pos c, decide_eq_true (by omega), correctorlaw7_QuoteBad.j1, if_pos rfl, if_pos (by omega), if_pos (by omega), w64 (x := (n : Int) + 1) (by omega) (by omega), show (n : Int) + 1 = ((n + 1 : Nat) : Int) by omega, w64 (by omega) (by omega)]
      have s2 (x : ByteArray) (a b : UInt8) : (x ++ (⟨#[a, b]⟩ : ByteArray)).size = x.size + 2 := by rw [ByteArray.size_append]; rfl
      have s1 (x : ByteArray) (a : UInt8) : (x ++ (⟨#[a]⟩ : ByteArray)).size = x.size + 1 := by rw [ByteArray.size_append]; rfl
      by_cases e : rdOf false l (n : Int) = true
      · rw [e] at tn hbn
        have := ih k (n + 1) (s ++ (⟨#[92, 113]⟩ : ByteArray)) (w ++ (⟨#[92, 113]⟩ : ByteArray)) (by omega) (by omega) (by omega) (by rw [bs_append, hs, tn, eb_snoc]; rfl) (by rw [bs_append, hw, tn, wb_snoc]; rfl) (by rw [s2]; omega)
        rw [hbn] at this
        rw [if_pos e, if_pos (by omega), if_pos (by omega), show ((bads (l.take n) 1).length : Int) + 1 = (((bads (l.take n) 1).length + 1 : Nat) : Int) by omega]
        exact this
      · have e2 : rdOf false l (n : Int) = false := by simpa using e
        rw [e2] at tn hbn
        have := ih k (n + 1) (s ++ (⟨#[92, 110]⟩ : ByteArray)) (w ++ (⟨#[10]⟩ : ByteArray)) (by omega) (by omega) (by omega) (by rw [bs_append, hs, tn, eb_snoc]; rfl) (by rw [bs_append, hw, tn, wb_snoc]; rfl) (by rw [s1]; omega)
        rw [hbn] at this
        rw [if_neg e, if_pos (by omega), if_pos (by omega)]
        exact this
    · rw [if_neg c]
      exact bad_end (l.take n) (by rw [List.length_take]; omega) (k + 1) (by omega) l (n : Int) s w hs hw
theorem QuoteBad : correctorlaw7_QuoteBad.Pure := by
  intro l _ _
  obtain ⟨K, hK⟩ : ∃ K, 3000 < K := ⟨3001, by omega⟩
  refine ⟨K, ?_⟩
  unfold correctorlaw7_QuoteBad.f
  rw [known7 K (by omega), Option.bind_some, if_pos rfl]
  exact bad_go l 20 K 0 ⟨#[34]⟩ ⟨#[]⟩ (by omega) (by omega) (by omega) rfl rfl (by decide)
end Go.Proofs.Ytabdoommjdgogaa.Pure
