/- How a text is written between signs ": a plain law, that the program and the reference both answer it, and how it is read again. -/
import Derived.Test.YtabdoommjdgogaaD3
namespace Go.Proofs.Ytabdoommjdgogaa.Pure
open Go.RowKit Go.Proofs.Ytabdoommjdgogaa.Q Go.Proofs.YtabdoommjdgogaaW.PrintWords Go.Proofs.YtabdoommjdgogaaW.PrintLast
set_option linter.unusedVariables false
set_option linter.unusedSimpArgs false
def hx (d : Int) : Int := if d < 10 then 48 + d else 87 + d
/-- A byte, as it is written. -/
def sg (c : Int) : List Int :=
  if c = 34 ∨ c = 92 then [92, c] else if c = 0 then [92, 48] else if c = 9 then [92, 116] else if c = 10 then [92, 110] else if c = 13 then [92, 114]
  else if c < 32 then [92, 120, hx (c / 16), hx (c % 16)] else [c]
def sgs : List Int → List Int
  | [] => []
  | c :: t => sg c ++ sgs t
theorem hx_range (d : Int) (h0 : 0 ≤ d) (h1 : d < 16) : 0 ≤ hx d ∧ hx d ≤ 255 := by unfold hx; split <;> omega
theorem sg_byt (c : Int) (h : 0 ≤ c ∧ c ≤ 255) : Byt (sg c) ∧ (sg c).length ≤ 4 := by
  have h1 := hx_range (c % 16) (by omega) (by omega)
  unfold sg
  refine ⟨?_, ?_⟩
  · repeat' split
    · exact Byt.cons (by omega) (by omega) (byt1 h)
    · exact Byt.cons (by omega) (by omega) (byt1 (by omega))
    · exact Byt.cons (by omega) (by omega) (byt1 (by omega))
    · exact Byt.cons (by omega) (by omega) (byt1 (by omega))
    · exact Byt.cons (by omega) (by omega) (byt1 (by omega))
    · have h2 := hx_range (c / 16) (by omega) (by omega)
      exact Byt.cons (by omega) (by omega) (Byt.cons (by omega) (by omega) (Byt.cons h2.1 h2.2 (byt1 h1)))
    · exact byt1 h
  · repeat' split
    all_goals (simp only [List.length_cons, List.length_nil]; omega)
theorem sgs_byt (l : List Int) (h : Byt l) : Byt (sgs l) := by
  induction l with
  | nil => exact Byt.nil
  | cons c t ih =>
    rw [sgs]
    exact (sg_byt c (h c (List.mem_cons_self ..))).1.append (ih fun x hx => h x (List.mem_cons_of_mem _ hx))
theorem sgs_len (l : List Int) (h : Byt l) : (sgs l).length ≤ 4 * l.length := by
  induction l with
  | nil => exact Nat.le_refl _
  | cons c t ih =>
    have h1 := (sg_byt c (h c (List.mem_cons_self ..))).2
    have h2 := ih fun x hx => h x (List.mem_cons_of_mem _ hx)
    rw [sgs, List.length_append, List.length_cons]
    omega
theorem sign_small : ∀ n : Nat, n < 256 → quote_sign.f 60 (n : Int) = some (strOfNums (sg (n : Int))) := by decide +kernel
theorem sign_eq (k : Nat) (hk : 60 ≤ k) (c : Int) (h : 0 ≤ c ∧ c ≤ 255) : quote_sign.f k c = some (strOfNums (sg c)) := by
  obtain ⟨n, rfl⟩ : ∃ n : Nat, c = (n : Int) := ⟨c.toNat, by omega⟩
  have : ∀ d, quote_sign.f (60 + d) (n : Int) = some (strOfNums (sg (n : Int))) := by
    intro d
    induction d with
    | zero => exact sign_small n (by omega)
    | succ d ih => exact quote_sign.mono _ _ _ ih
  rw [show k = 60 + (k - 60) by omega]
  exact this _
theorem write_loop (s : ByteArray) (hs : s.size ≤ 1000) (d : Nat) : ∀ (k i : Nat) (x : ByteArray), i + d = s.size → 70 + d < k → x.size ≤ 4 * i + 1 →
    quote_Write.l0 k s (s.size : Int) (i : Int) x = some (strOfNums (bs x ++ (sgs ((bs s).drop i) ++ [34]))) := by
  induction d with
  | zero =>
    intro k i x hi hk hx
    obtain ⟨k, rfl⟩ : ∃ m, k = m + 1 := ⟨k - 1, by omega⟩
    rw [quote_Write.l0, if_neg (by omega), put_byte x 34 (by omega) (by omega) (by omega), Option.bind_some, drop_end s i (by omega)]
    show some (x ++ strOfNums [34]) = some (strOfNums (bs x ++ [34]))
    rw [nums_app x [34] (byt1 (by omega))]
  | succ d ih =>
    intro k i x hi hk hx
    obtain ⟨k, rfl⟩ : ∃ m, k = m + 1 := ⟨k - 1, by omega⟩
    have hr := bt_range s (i : Int)
    have hb := sg_byt _ hr
    have hz := bs_size _ _ (bs_nums _ hb.1)
    rw [quote_Write.l0, if_pos (by omega), if_pos (by omega), if_pos (by omega), sign_eq k (by omega) _ hr, Option.bind_some, put_text x _ (by omega) (by omega), Option.bind_some, w64 (by omega) (by omega), show (i : Int) + 1 = ((i + 1 : Nat) : Int) by omega]
    show quote_Write.l0 k s (s.size : Int) ((i + 1 : Nat) : Int) (x ++ strOfNums (sg (bt s (i : Int)))) = _
    rw [ih k (i + 1) _ (by omega) (by omega) (by rw [ByteArray.size_append]; omega), bs_append, bs_nums _ hb.1, drop_bt s i (by omega), sgs, List.append_assoc, List.append_assoc]
/-- A text, as it is written. -/
def wrt (s : ByteArray) : ByteArray := strOfNums (34 :: (sgs (bs s) ++ [34]))
theorem written_eq (k : Nat) (s : ByteArray) (hs : s.size ≤ 1000) (hk : s.size + 80 < k) : quote_Write.f k s = some (wrt s) := by
  unfold quote_Write.f
  rw [put_byte _ 34 (by omega) (by omega) (by decide), Option.bind_some]
  have := write_loop s hs s.size k 0 (⟨#[]⟩ ++ strOfNums [34]) (by omega) (by omega) (by decide)
  rw [show ((0 : Nat) : Int) = 0 from rfl] at this
  show quote_Write.l0 k s (s.size : Int) 0 (⟨#[]⟩ ++ strOfNums [34]) = _
  rw [this]
  rfl

/-! ### The reference -/
theorem hex_cut : ∀ d : Nat, d < 16 → bs ((⟨#[48, 49, 50, 51, 52, 53, 54, 55, 56, 57, 97, 98, 99, 100, 101, 102]⟩ : ByteArray).extract d (d + 1)) = [hx (d : Int)] := by decide +kernel
def HEX : ByteArray := ⟨#[48, 49, 50, 51, 52, 53, 54, 55, 56, 57, 97, 98, 99, 100, 101, 102]⟩
theorem hex_cut2 (d : Int) (h0 : 0 ≤ d) (h1 : d < 16) : bs (HEX.extract d.toNat (d + 1).toNat) = [hx d] := by
  obtain ⟨n, rfl⟩ : ∃ n : Nat, d = (n : Int) := ⟨d.toNat, by omega⟩
  rw [show ((n : Int) + 1).toNat = n + 1 by omega, Int.toNat_natCast]
  exact hex_cut n (by omega)
theorem refwrite_loop (s : ByteArray) (hs : s.size ≤ 1000) (d : Nat) : ∀ (k i : Nat) (x : ByteArray), i + d = s.size → 10 + 2 * d < k → x.size ≤ 4 * i + 1 →
    correctorref7_Write.l0 k s HEX x (i : Int) = some (strOfNums (bs x ++ (sgs ((bs s).drop i) ++ [34]))) := by
  induction d with
  | zero =>
    intro k i x hi hk hx
    obtain ⟨k, rfl⟩ : ∃ m, k = m + 1 := ⟨k - 1, by omega⟩
    rw [correctorref7_Write.l0, if_neg (by omega), if_pos (by omega), drop_end s i (by omega)]
    show some (x ++ strOfNums [34]) = some (strOfNums (bs x ++ [34]))
    rw [nums_app x [34] (byt1 (by omega))]
  | succ d ih =>
    intro k i x hi hk hx
    obtain ⟨k, rfl⟩ : ∃ m, k = m + 2 := ⟨k - 2, by omega⟩
    have hr := bt_range s (i : Int)
    have hb := sg_byt _ hr
    have st : correctorref7_Write.l0 (k + 2) s HEX x (i : Int) = correctorref7_Write.j1 (k + 1) s HEX x (i : Int) (bt s (i : Int)) (decide (bt s (i : Int) = 34 ∨ bt s (i : Int) = 92)) := by
      rw [correctorref7_Write.l0, if_pos (by omega), if_pos (by omega)]
      by_cases a : bt s (i : Int) = 34
      · rw [if_pos a, decide_eq_true (.inl a)]
      · rw [if_neg a]
        congr 1
        by_cases b : bt s (i : Int) = 92
        · rw [decide_eq_true (.inr b), b]; rfl
        · rw [decide_eq_false (by omega)]; exact beq_false_of_ne b
    -- what is put: its bytes, and that it is the byte's sign
    have next (y : ByteArray) (hy : bs y = bs x ++ sg (bt s (i : Int))) : correctorref7_Write.l0 k s HEX y ((i + 1 : Nat) : Int) = some (strOfNums (bs x ++ (sgs ((bs s).drop i) ++ [34]))) := by
      have hz := bs_size _ _ hy
      rw [List.length_append, bs_len] at hz
      rw [ih k (i + 1) y (by omega) (by omega) (by omega), hy, drop_bt s i (by omega), sgs, List.append_assoc, List.append_assoc]
    have ho := bs_one s i (by omega)
    have hz3 := bs_size _ _ ho
    simp only [List.length_cons, List.length_nil] at hz3
    have s1 : (x ++ (⟨#[92]⟩ : ByteArray)).size = x.size + 1 := by rw [ByteArray.size_append]; rfl
    have s2 : (x ++ (⟨#[92, 120]⟩ : ByteArray)).size = x.size + 2 := by rw [ByteArray.size_append]; rfl
    rw [st, correctorref7_Write.j1, w64 (x := (i : Int) + 1) (by omega) (by omega), show (i : Int) + 1 = ((i + 1 : Nat) : Int) by omega, Int.toNat_natCast, Int.toNat_natCast]
    generalize hc : bt s (i : Int) = c at *
    unfold sg at next
    by_cases a : c = 34 ∨ c = 92
    · rw [decide_eq_true a, if_pos rfl, if_pos (by omega), if_pos (by omega), if_pos (by omega), if_pos (by omega), if_pos (by omega)]
      exact next _ (by rw [bs_append, bs_append, ho, if_pos a, List.append_assoc]; rfl)
    rw [decide_eq_false a, if_neg Bool.false_ne_true]
    rw [if_neg a] at next
    by_cases b : c = 0
    · rw [if_pos b, if_pos (by omega)]
      exact next _ (by rw [bs_append, if_pos b]; rfl)
    rw [if_neg b]
    rw [if_neg b] at next
    by_cases d9 : c = 9
    · rw [if_pos d9, if_pos (by omega)]
      exact next _ (by rw [bs_append, if_pos d9]; rfl)
    rw [if_neg d9]
    rw [if_neg d9] at next
    by_cases d10 : c = 10
    · rw [if_pos d10, if_pos (by omega)]
      exact next _ (by rw [bs_append, if_pos d10]; rfl)
    rw [if_neg d10]
    rw [if_neg d10] at next
    by_cases d13 : c = 13
    · rw [if_pos d13, if_pos (by omega)]
      exact next _ (by rw [bs_append, if_pos d13]; rfl)
    rw [if_neg d13]
    rw [if_neg d13] at next
    by_cases e : c < 32
    · have e1 : (c / 16 + 1) % 256 = c / 16 + 1 := by omega
      have e2 : (c % 16 + 1) % 256 = c % 16 + 1 := by omega
      have e3 : (HEX.size : Int) = 16 := rfl
      have h1 := hex_cut2 (c / 16) (by omega) (by omega)
      have h2 := hex_cut2 (c % 16) (by omega) (by omega)
      have z1 := bs_size _ _ h1
      have z2 := bs_size _ _ h2
      simp only [List.length_cons, List.length_nil] at z1 z2
      have s3 : ((x ++ (⟨#[92, 120]⟩ : ByteArray)) ++ (HEX.extract (c / 16).toNat (c / 16 + 1).toNat)).size = x.size + 3 := by rw [ByteArray.size_append]; omega
      rw [if_pos e, u8_and15 c (by omega) (by omega), e1, e2, if_pos (by omega), if_pos (by omega), if_pos (by omega), if_pos (by omega), if_pos (by omega), if_pos (by omega), if_pos (by omega), if_pos (by omega), if_pos (by omega)]
      rw [if_pos e] at next
      exact next _ (by rw [bs_append, bs_append, bs_append, h1, h2, List.append_assoc, List.append_assoc]; rfl)
    · rw [if_neg e, if_pos (by omega), if_pos (by omega), if_pos (by omega), if_pos (by omega)]
      rw [if_neg e] at next
      exact next _ (by rw [bs_append, ho])
theorem refwritten_eq (k : Nat) (s : ByteArray) (hs : s.size ≤ 1000) (hk : 2 * s.size + 80 < k) : correctorref7_Write.f k s = some (wrt s) := by
  unfold correctorref7_Write.f
  have := refwrite_loop s hs s.size k 0 ⟨#[34]⟩ (by omega) (by omega) (by decide)
  rw [show ((0 : Nat) : Int) = 0 from rfl] at this
  exact this.trans rfl

/-! ### Read again -/
theorem bt_at_list (u : ByteArray) (l : List Int) (h : bs u = l) (n : Nat) : bt u (n : Int) = l.getD n 0 := by
  rw [bt_bs, h]
  unfold Go.Proofs.YtabdoommjdgogaaW.PrintWords.rd
  rw [Int.toNat_natCast]
theorem esc_two (u : ByteArray) (e : Int) (rest : List Int) (t : ByteArray) (h : bs u = 92 :: e :: rest) (hs : simp1 e = some t) : esc u = (t, 2) := by
  have hz := bs_size _ _ h
  have h0 : bt u 0 = 92 := bt_at_list u _ h 0
  have h1 : bt u 1 = e := bt_at_list u _ h 1
  simp only [List.length_cons] at hz
  unfold esc
  rw [if_neg (by omega), h1, hs]
theorem hexd_hx : ∀ d : Nat, d < 16 → hexd (hx (d : Int)) = (d : Int) := by decide +kernel
theorem hexd_hx2 (d : Int) (h0 : 0 ≤ d) (h1 : d < 16) : hexd (hx d) = d := by
  obtain ⟨n, rfl⟩ : ∃ n : Nat, d = (n : Int) := ⟨d.toNat, by omega⟩
  exact hexd_hx n (by omega)
theorem esc_hex (u : ByteArray) (c : Int) (rest : List Int) (h0 : 0 ≤ c) (h1 : c < 32) (h : bs u = 92 :: 120 :: hx (c / 16) :: hx (c % 16) :: rest) : esc u = (Utf8.encode c, 4) := by
  have hz := bs_size _ _ h
  have b0 : bt u 0 = 92 := bt_at_list u _ h 0
  have b1 : bt u 1 = 120 := bt_at_list u _ h 1
  have b2 : bt u 2 = hx (c / 16) := bt_at_list u _ h 2
  have b3 : bt u 3 = hx (c % 16) := bt_at_list u _ h 3
  simp only [List.length_cons] at hz
  have hd1 := hexd_hx2 (c / 16) (by omega) (by omega)
  have hd2 := hexd_hx2 (c % 16) (by omega) (by omega)
  have hv : hexv u 2 2 0 = c := by
    unfold hexv
    rw [b2, hd1, if_neg (by omega)]
    unfold hexv
    rw [show (2 : Int) + 1 = 3 from rfl, b3, hd2, if_neg (by omega)]
    unfold hexv
    omega
  have hd : digs 120 = 2 := rfl
  unfold esc
  rw [if_neg (by omega), b1, hd, show simp1 120 = none from rfl]
  simp only
  rw [if_neg (by omega), hv, if_neg (by omega)]
  rfl
theorem enc_bs (c : Int) (h0 : 0 ≤ c) (h1 : c < 128) : bs (Utf8.encode c) = [c] := by
  have := text_wr c ⟨h0, by omega, by omega⟩
  unfold wr at this
  rw [if_pos h1] at this
  rw [← this, bs_nums _ (byt1 (by omega))]
theorem bs_tail (s : ByteArray) (i : Nat) : bs (s.extract i s.size) = (bs s).drop i := bs_drop s i
theorem read_back (w : ByteArray) (l : List Int) (hl : Byt l) : ∀ (n i : Nat), (bs w).drop i = sgs l ++ [34] → w.size ≤ i + n → dq w n i = (l, [], true) := by
  induction l with
  | nil =>
    intro n i hd hn
    have hi : i < w.size := by
      by_cases h : i < w.size
      · exact h
      · rw [drop_end w i (by omega)] at hd; cases hd
    obtain ⟨n, rfl⟩ : ∃ m, n = m + 1 := ⟨n - 1, by omega⟩
    rw [drop_bt w i hi] at hd
    have h34 : bt w (i : Int) = 34 := (List.cons.inj hd).1
    rw [dq, if_pos hi, if_pos h34]
  | cons c t ih =>
    intro n i hd hn
    have ht : Byt t := fun x hx => hl x (List.mem_cons_of_mem _ hx)
    have hc := hl c (List.mem_cons_self ..)
    have hi : i < w.size := by
      by_cases h : i < w.size
      · exact h
      · rw [drop_end w i (by omega)] at hd; simp at hd
    obtain ⟨n, rfl⟩ : ∃ m, n = m + 1 := ⟨n - 1, by omega⟩
    have hu : bs (w.extract i w.size) = sg c ++ (sgs t ++ [34]) := by rw [bs_drop, hd, sgs, List.append_assoc]
    have hd2 : bt w (i : Int) :: (bs w).drop (i + 1) = sg c ++ (sgs t ++ [34]) := by rw [← drop_bt w i hi, hd, sgs, List.append_assoc]
    have step (e : ByteArray) (m : Nat) (he : esc (w.extract i w.size) = (e, (m : Int))) (hm : m ≠ 0) (hm2 : (sg c).length = m) (hs : ∃ r, sg c = 92 :: r) (hb : bs e = [c]) : dq w (n + 1) i = (c :: t, [], true) := by
      obtain ⟨r, hr⟩ := hs
      rw [hr] at hd2
      have h92 : bt w (i : Int) = 92 := (List.cons.inj hd2).1
      have hdrop : (bs w).drop (i + m) = sgs t ++ [34] := by
        rw [← List.drop_drop, hd, sgs, List.append_assoc, ← hm2, List.drop_left]
      rw [dq, if_pos hi, if_neg (by omega), he]
      simp only
      rw [if_neg (by omega), Int.toNat_natCast, ih ht n (i + m) hdrop (by omega), hb]
      rfl
    by_cases a : c = 34 ∨ c = 92
    · have hg : sg c = [92, c] := by unfold sg; rw [if_pos a]
      have hs1 : simp1 c = some (Utf8.encode c) := by
        rcases a with rfl | rfl
        · rfl
        · rfl
      exact step _ 2 (esc_two _ c _ _ (by rw [hu, hg]; rfl) hs1) (by decide) (by rw [hg]; rfl) ⟨_, hg⟩ (enc_bs c hc.1 (by omega))
    by_cases b : c = 0
    · subst b
      exact step _ 2 (esc_two _ 48 _ _ hu rfl) (by decide) rfl ⟨_, rfl⟩ rfl
    by_cases d9 : c = 9
    · subst d9
      exact step _ 2 (esc_two _ 116 _ _ hu rfl) (by decide) rfl ⟨_, rfl⟩ rfl
    by_cases d10 : c = 10
    · subst d10
      exact step _ 2 (esc_two _ 110 _ _ hu rfl) (by decide) rfl ⟨_, rfl⟩ rfl
    by_cases d13 : c = 13
    · subst d13
      exact step _ 2 (esc_two _ 114 _ _ hu rfl) (by decide) rfl ⟨_, rfl⟩ rfl
    by_cases e : c < 32
    · have hg : sg c = [92, 120, hx (c / 16), hx (c % 16)] := by unfold sg; rw [if_neg a, if_neg b, if_neg d9, if_neg d10, if_neg d13, if_pos e]
      exact step _ 4 (esc_hex _ c _ hc.1 e (by rw [hu, hg]; rfl)) (by decide) (by rw [hg]; rfl) ⟨_, hg⟩ (enc_bs c hc.1 (by omega))
    · have hg : sg c = [c] := by unfold sg; rw [if_neg a, if_neg b, if_neg d9, if_neg d10, if_neg d13, if_neg e]
      rw [hg] at hd2
      have hcc : bt w (i : Int) = c := (List.cons.inj hd2).1
      have hne : (esc (w.extract i w.size)).2 = 0 := (esc_cases _).resolve_right fun h => by
        have := h.2.2.2
        rw [bt_tail w i hi] at this
        omega
      rw [dq, if_pos hi, if_neg (by omega), if_pos hne, ih ht n (i + 1) (List.cons.inj hd2).2 (by omega), hcc]
      simp only
      rw [if_neg (by omega)]
theorem wrt_bs (s : ByteArray) : bs (wrt s) = 34 :: (sgs (bs s) ++ [34]) :=
  bs_nums _ (Byt.cons (by omega) (by omega) ((sgs_byt _ (bs_byt s)).append (byt1 (by omega))))
theorem wrt_size (s : ByteArray) : (wrt s).size ≤ 4 * s.size + 2 := by
  have := bs_size _ _ (wrt_bs s)
  have h2 := sgs_len _ (bs_byt s)
  rw [bs_len] at h2
  rw [this, List.length_cons, List.length_append]
  simp only [List.length_cons, List.length_nil]
  omega
theorem read_wrt (s : ByteArray) : qt 17 (wrt s) = (s, [], true) := by
  have hz := bs_size _ _ (wrt_bs s)
  simp only [List.length_cons] at hz
  have := read_back (wrt s) (bs s) (bs_byt s) (wrt s).size 1 (by rw [wrt_bs]; rfl) (by omega)
  unfold qt
  rw [if_neg (by omega), if_neg (by decide), if_neg (by decide), if_pos rfl, this, nums_bs]
end Go.Proofs.Ytabdoommjdgogaa.Pure
