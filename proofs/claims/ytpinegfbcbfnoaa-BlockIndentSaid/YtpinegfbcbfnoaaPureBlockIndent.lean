/- BlockIndent: how far lines are in does not count, if all are as much further in. For every input. -/
import Derived.Test.YtpinegfbcbfnoaaE5
import Derived.Test.YtpinegfbcbfnoaaQLawBlockIndent
namespace Go.Proofs.Ytpinegfbcbfnoaa.Pure
open Go.RowKit Go.Proofs.Ytpinegfbcbfnoaa.Q Go.Proofs.YtpinegfbcbfnoaaW.PrintWords Go.Proofs.YtpinegfbcbfnoaaW.PrintLast
set_option linter.unusedVariables false
set_option linter.unusedSimpArgs false
/-- A content that the law has. -/
structure Bit (w : List Int) : Prop where
  h : ∃ c t, w = c :: t ∧ c ≠ 32 ∧ c ≠ 9
  o : ownL (w ++ [10]) = w
  a : Asc w
  n : w.length ≤ 3
theorem emp_bit (a : Nat) (w : List Int) (h : Bit w) : emp (List.replicate a 32 ++ w) = false := by
  obtain ⟨c, t, rfl, h1, h2⟩ := h.h
  unfold emp
  rw [List.all_append, List.all_cons, decide_eq_false (by omega)]
  simp
theorem spc_bit (m : Nat) (w : List Int) (h : Bit w) : ∀ n, m ≤ n → spc (List.replicate m 32 ++ w) n = m := by
  obtain ⟨c, t, rfl, h1, h2⟩ := h.h
  induction m with
  | zero =>
    intro n _
    cases n with
    | zero => rfl
    | succ n => show spc (c :: t) (n + 1) = 0; rw [spc, if_neg h1]
  | succ m ih =>
    intro n hn2
    obtain ⟨n, rfl⟩ : ∃ q, n = q + 1 := ⟨n - 1, by omega⟩
    rw [List.replicate_succ, List.cons_append, spc, if_pos rfl, ih n (by omega)]
theorem spc_rep (n : Nat) (w : List Int) : ∀ a, n ≤ a → spc (List.replicate a 32 ++ w) n = n := by
  induction n with
  | zero =>
    intro a _
    cases a with
    | zero => cases w <;> rfl
    | succ a => rfl
  | succ n ih =>
    intro a ha
    obtain ⟨a, rfl⟩ : ∃ q, a = q + 1 := ⟨a - 1, by omega⟩
    rw [List.replicate_succ, List.cons_append, spc, if_pos rfl, ih a (by omega)]
theorem cut_rep (n c : Nat) (w : List Int) : cutL n (List.replicate (n + c) 32 ++ w) = List.replicate c 32 ++ w := by
  unfold cutL
  rw [spc_rep n w (n + c) (by omega), ← List.replicate_append_replicate, List.append_assoc]
  have := List.drop_left (l₁ := List.replicate n (32 : Int)) (l₂ := List.replicate c 32 ++ w)
  rwa [List.length_replicate] at this
theorem bits_bs (t : Nat) (ht : t < 4) : Bit (bs (rdOf ByteArray.empty ([(⟨#[97]⟩ : ByteArray), (⟨#[98, 32, 99]⟩ : ByteArray), (⟨#[45, 32, 100]⟩ : ByteArray), (⟨#[101]⟩ : ByteArray)] : List ByteArray) (t : Int))) := by
  match t, ht with
  | 0, _ => exact ⟨⟨97, [], rfl, by decide, by decide⟩, rfl, by unfold Asc; decide, by decide⟩
  | 1, _ => exact ⟨⟨98, [32, 99], rfl, by decide, by decide⟩, rfl, by unfold Asc; decide, by decide⟩
  | 2, _ => exact ⟨⟨45, [32, 100], rfl, by decide, by decide⟩, rfl, by unfold Asc; decide, by decide⟩
  | 3, _ => exact ⟨⟨101, [], rfl, by decide, by decide⟩, rfl, by unfold Asc; decide, by decide⟩
theorem heads (t : Nat) (ht : t < 6) : ∃ f p m, Hd (rdOf ByteArray.empty ([(⟨#[124]⟩ : ByteArray), (⟨#[62]⟩ : ByteArray), (⟨#[124, 45]⟩ : ByteArray), (⟨#[62, 45]⟩ : ByteArray), (⟨#[124, 43]⟩ : ByteArray), (⟨#[62, 43]⟩ : ByteArray)] : List ByteArray) (t : Int)) f p m := by
  match t, ht with
  | 0, _ => exact ⟨_, _, _, head_lit⟩
  | 1, _ => exact ⟨_, _, _, head_fold⟩
  | 2, _ => exact ⟨_, _, _, head_lit_strip⟩
  | 3, _ => exact ⟨_, _, _, head_fold_strip⟩
  | 4, _ => exact ⟨_, _, _, head_lit_keep⟩
  | 5, _ => exact ⟨_, _, _, head_fold_keep⟩
def ln (b : Nat) (q : Nat × List Int) : List Int := List.replicate (b + q.1) 32 ++ q.2
/-- The text does not depend on how far all is in. -/
theorem txt_shift (f p m : Bool) (b : Nat) (q : Nat × List Int) (t : List (Nat × List Int)) (hb : ∀ x ∈ q :: t, Bit x.2) (hge : ∀ x ∈ q :: t, q.1 ≤ x.1) :
    txt f p m ((q :: t).map (ln b)) = (if f = true then fol ((q :: t).map fun x => List.replicate (x.1 - q.1) 32 ++ x.2) [] 0 else joinL ((q :: t).map fun x => List.replicate (x.1 - q.1) 32 ++ x.2)) ++ (if m = true then [] else if p = true then List.replicate 1 10 else [10]) := by
  have hq := hb q (List.mem_cons_self ..)
  obtain ⟨Y, z, hYz⟩ : ∃ Y z, q :: t = Y ++ [z] := ⟨_, _, (List.dropLast_concat_getLast (List.cons_ne_nil q t)).symm⟩
  have hz := hb z (by rw [hYz]; exact List.mem_append_right _ (List.mem_singleton.2 rfl))
  have := txt_two f p m (b + q.1) (ln b q) (t.map (ln b)) (Y.map (ln b)) (ln b z) [] (emp_bit _ _ hq) (emp_bit _ _ hz)
    (by have := congrArg (List.map (ln b)) hYz; rwa [List.map_cons, List.map_append, List.map_cons, List.map_nil] at this) (fun y hy => by cases hy)
    (spc_bit _ _ hq _ (by unfold ln; rw [List.length_append, List.length_replicate]; omega))
  have hc : ((q :: t).map (ln b)).map (cutL (b + q.1)) = (q :: t).map fun x => List.replicate (x.1 - q.1) 32 ++ x.2 := by
    rw [List.map_map]
    refine List.map_congr_left fun x hx => ?_
    have h1 := hge x hx
    show cutL (b + q.1) (List.replicate (b + x.1) 32 ++ x.2) = _
    rw [show b + x.1 = (b + q.1) + (x.1 - q.1) by omega]
    exact cut_rep _ _ _
  rw [List.append_nil, ← List.map_cons, hc] at this
  exact this
theorem same_end (x0 : List Int) (h : ByteArray) (f p m : Bool) (H : Hd h f p m) (b : Nat) (hb : b ≤ 8) (P : List (Nat × List Int)) (hP : P.length ≤ 15) (hW : ∀ q ∈ P, Bit q.2 ∧ q.1 ≤ 4) (hA : ∀ j (hj : j < P.length), correctorlaw8_within.f (rd x0 (j : Int)) 5 = some (P[j].1 : Int))
    (hx : P.length ≤ x0.length) (l1 l2 : List ByteArray) (g1 : Good l1) (g2 : Good l2) (h1 : l1.map (fun x => ownL (bs x)) = P.map (ln 0)) (h2 : l2.map (fun x => ownL (bs x)) = P.map (ln b)) (least : Int) (hle : ∀ q t, P = q :: t → least = (q.1 : Int)) (d : Nat) :
    ∀ (k i : Nat), i + d = P.length → 1200 + d < k → (∀ j (hj : j < P.length), j < i → least ≤ (P[j].1 : Int)) → correctorlaw8_BlockIndent.l1 k x0 l1 l2 h least (i : Int) = some true := by
  have hl1 : l1.length = P.length := by have := congrArg List.length h1; rwa [List.length_map, List.length_map] at this
  induction d with
  | zero =>
    intro k i hi hk hj
    obtain ⟨k, rfl⟩ : ∃ m, k = m + 1 := ⟨k - 1, by omega⟩
    rw [correctorlaw8_BlockIndent.l1, if_neg (by omega), text_eq f p m h H l1 g1 k (by omega), Option.bind_some, text_eq f p m h H l2 g2 k (by omega), Option.bind_some, h1, h2]
    have e : txt f p m (P.map (ln 0)) = txt f p m (P.map (ln b)) := by
      cases P with
      | nil => rfl
      | cons q t =>
        have hge : ∀ x ∈ q :: t, q.1 ≤ x.1 := fun x hx => by
          obtain ⟨j, hj2, rfl⟩ := List.getElem_of_mem hx
          have := hj j hj2 (by omega)
          rw [hle q t rfl] at this
          omega
        rw [txt_shift f p m 0 q t (fun x hx => (hW x hx).1) hge, txt_shift f p m b q t (fun x hx => (hW x hx).1) hge]
    rw [e]
    congr 1
    exact beq_self_eq_true _
  | succ d ih =>
    intro k i hi hk hj
    obtain ⟨k, rfl⟩ : ∃ m, k = m + 1 := ⟨k - 1, by omega⟩
    rw [correctorlaw8_BlockIndent.l1, if_pos (by omega), if_pos (by omega), if_pos (by omega), hA i (by omega), Option.bind_some]
    by_cases c : (P[i].1 : Int) < least
    · rw [if_pos c]
    · rw [if_neg c, w64 (by omega) (by omega), show (i : Int) + 1 = ((i + 1 : Nat) : Int) by omega]
      refine ih k (i + 1) (by omega) (by omega) fun j hj2 h3 => ?_
      by_cases e : j = i
      · subst e; omega
      · exact hj j hj2 (by omega)
theorem indent_end (x0 : List Int) (x2 : Int) (b : Nat) (hb : b ≤ 8) (P : List (Nat × List Int)) (hP : P.length ≤ 15) (hW : ∀ q ∈ P, Bit q.2 ∧ q.1 ≤ 4) (hA : ∀ j (hj : j < P.length), correctorlaw8_within.f (rd x0 (j : Int)) 5 = some (P[j].1 : Int))
    (hx : P.length ≤ x0.length) (hx2 : x0.length ≠ 0 → P.length ≠ 0) (l1 l2 : List ByteArray) (g1 : Good l1) (g2 : Good l2) (h1 : l1.map (fun x => ownL (bs x)) = P.map (ln 0)) (h2 : l2.map (fun x => ownL (bs x)) = P.map (ln b)) (k : Nat) (hk : 1300 < k) (i : Int) :
    correctorlaw8_BlockIndent.j1 k x0 (b : Int) x2 l1 l2 i false = some true := by
  obtain ⟨k, rfl⟩ : ∃ m, k = m + 2 := ⟨k - 2, by omega⟩
  obtain ⟨t, ht, t0, t1⟩ := within8 x2 6 (by decide) (by decide)
  obtain ⟨t, rfl⟩ : ∃ q : Nat, t = (q : Int) := ⟨t.toNat, by omega⟩
  obtain ⟨f, p, m, H⟩ := heads t (by omega)
  rw [correctorlaw8_BlockIndent.j1, if_neg Bool.false_ne_true, Option.bind_some, ht, Option.bind_some, if_pos (by omega), if_pos (by simp only [List.length_cons, List.length_nil]; omega)]
  generalize rdOf ByteArray.empty ([(⟨#[124]⟩ : ByteArray), (⟨#[62]⟩ : ByteArray), (⟨#[124, 45]⟩ : ByteArray), (⟨#[62, 45]⟩ : ByteArray), (⟨#[124, 43]⟩ : ByteArray), (⟨#[62, 43]⟩ : ByteArray)] : List ByteArray) (t : Int) = h at *
  by_cases c : (x0.length : Int) > 0
  · obtain ⟨q, r, rfl⟩ := List.exists_cons_of_ne_nil (l := P) (fun e => hx2 (by omega) (by rw [e]; rfl))
    have h0 := hA 0 (by rw [List.length_cons]; omega)
    rw [if_pos c, if_pos c, show (0 : Int) = ((0 : Nat) : Int) from rfl, h0, Option.bind_some, correctorlaw8_BlockIndent.j2]
    exact same_end x0 h f p m H b hb (q :: r) hP hW hA hx l1 l2 g1 g2 h1 h2 _ (fun q' t' e => by rw [← (List.cons.inj e).1]; rfl) _ k 0 (Nat.zero_add _) (by omega) (fun j hj h3 => absurd h3 (Nat.not_lt_zero _))
  · rw [if_neg c, correctorlaw8_BlockIndent.j2]
    have hP0 : P = [] := List.eq_nil_of_length_eq_zero (by omega)
    exact same_end x0 h f p m H b hb P hP hW hA hx l1 l2 g1 g2 h1 h2 9 (fun q' t' e => by rw [hP0] at e; cases e) _ k 0 (Nat.zero_add _) (by omega) (fun j hj h3 => absurd h3 (Nat.not_lt_zero _))
theorem indent_go (x0 : List Int) (x2 : Int) (b : Nat) (hb : b ≤ 8) (d : Nat) : ∀ (k i : Nat) (l1 l2 : List ByteArray) (P : List (Nat × List Int)), i + d = 15 → 1400 + 2 * d < k → i ≤ x0.length → P.length = i → (∀ q ∈ P, Bit q.2 ∧ q.1 ≤ 4) → (∀ j (hj : j < P.length), correctorlaw8_within.f (rd x0 (j : Int)) 5 = some (P[j].1 : Int)) →
    (∀ x ∈ l1, x.size ≤ 100 ∧ Asc (bs x)) → (∀ x ∈ l2, x.size ≤ 100 ∧ Asc (bs x)) → l1.map (fun x => ownL (bs x)) = P.map (ln 0) → l2.map (fun x => ownL (bs x)) = P.map (ln b) → correctorlaw8_BlockIndent.l0 k x0 (b : Int) x2 l1 l2 (i : Int) = some true := by
  have fin (k i : Nat) (l1 l2 : List ByteArray) (P : List (Nat × List Int)) (hi : i ≤ 15) (hk : 1301 < k) (hx : i ≤ x0.length) (he : i = 15 ∨ i = x0.length) (hl : P.length = i) (hW : ∀ q ∈ P, Bit q.2 ∧ q.1 ≤ 4) (hA : ∀ j (hj : j < P.length), correctorlaw8_within.f (rd x0 (j : Int)) 5 = some (P[j].1 : Int))
      (s1 : ∀ x ∈ l1, x.size ≤ 100 ∧ Asc (bs x)) (s2 : ∀ x ∈ l2, x.size ≤ 100 ∧ Asc (bs x)) (h1 : l1.map (fun x => ownL (bs x)) = P.map (ln 0)) (h2 : l2.map (fun x => ownL (bs x)) = P.map (ln b)) : correctorlaw8_BlockIndent.l0 k x0 (b : Int) x2 l1 l2 (i : Int) = some true := by
    obtain ⟨k, rfl⟩ : ∃ m, k = m + 1 := ⟨k - 1, by omega⟩
    have hl1 : l1.length = P.length := by have := congrArg List.length h1; rwa [List.length_map, List.length_map] at this
    have hl2 : l2.length = P.length := by have := congrArg List.length h2; rwa [List.length_map, List.length_map] at this
    have e := indent_end x0 x2 b hb P (by omega) hW hA (by omega) (by omega) l1 l2 (good_asc l1 (by omega) s1) (good_asc l2 (by omega) s2) h1 h2 k (by omega) (i : Int)
    rw [correctorlaw8_BlockIndent.l0]
    by_cases c : (i : Int) < (x0.length : Int)
    · rw [if_pos c, decide_eq_false (by omega)]
      exact e
    · rw [if_neg c]
      exact e
  induction d with
  | zero =>
    intro k i l1 l2 P hi hk hx hl hW hA s1 s2 h1 h2
    exact fin k i l1 l2 P (by omega) (by omega) hx (by omega) hl hW hA s1 s2 h1 h2
  | succ d ih =>
    intro k i l1 l2 P hi hk hx hl hW hA s1 s2 h1 h2
    by_cases c : (i : Int) < (x0.length : Int)
    · obtain ⟨k, rfl⟩ : ∃ m, k = m + 2 := ⟨k - 2, by omega⟩
      have hl1 : l1.length = P.length := by have := congrArg List.length h1; rwa [List.length_map, List.length_map] at this
      have hl2 : l2.length = P.length := by have := congrArg List.length h2; rwa [List.length_map, List.length_map] at this
      obtain ⟨a, ha, a0, a1⟩ := within8 (rd x0 (i : Int)) 5 (by decide) (by decide)
      obtain ⟨a, rfl⟩ : ∃ q : Nat, a = (q : Int) := ⟨a.toNat, by omega⟩
      obtain ⟨t, ht, t0, t1⟩ := within8 (wrap64 (Int.tdiv (rd x0 (i : Int)) 5)) 4 (by decide) (by decide)
      obtain ⟨t, rfl⟩ : ∃ q : Nat, t = (q : Int) := ⟨t.toNat, by omega⟩
      have hbit := bits_bs t (by omega)
      rw [correctorlaw8_BlockIndent.l0, if_pos c, decide_eq_true (by omega), correctorlaw8_BlockIndent.j1, if_pos rfl, if_pos (by omega), if_pos c, ha, Option.bind_some, if_pos (by omega), if_pos (by omega), Option.bind_some, ht, Option.bind_some, if_pos (by omega), if_pos (by simp only [List.length_cons, List.length_nil]; omega), Int.toNat_natCast, Int.toNat_natCast]
      generalize rdOf ByteArray.empty ([(⟨#[97]⟩ : ByteArray), (⟨#[98, 32, 99]⟩ : ByteArray), (⟨#[45, 32, 100]⟩ : ByteArray), (⟨#[101]⟩ : ByteArray)] : List ByteArray) (t : Int) = v at *
      have hvz : v.size ≤ 3 := by rw [← bs_len]; exact hbit.n
      have ba : bs ((⟨#[32, 32, 32, 32, 32, 32]⟩ : ByteArray).extract 0 a) = List.replicate a 32 := spaces_bs _ a rfl (show a ≤ 6 by omega)
      have za := bs_size _ _ ba
      rw [List.length_replicate] at za
      have bb : bs ((⟨#[32, 32, 32, 32, 32, 32, 32, 32, 32]⟩ : ByteArray).extract 0 b) = List.replicate b 32 := spaces_bs _ b rfl (show b ≤ 9 by omega)
      have zb := bs_size _ _ bb
      rw [List.length_replicate] at zb
      generalize (⟨#[32, 32, 32, 32, 32, 32]⟩ : ByteArray).extract 0 a = A at *
      generalize (⟨#[32, 32, 32, 32, 32, 32, 32, 32, 32]⟩ : ByteArray).extract 0 b = B at *
      have z1 : (A ++ v).size = a + v.size := by rw [ByteArray.size_append, za]
      have z2 : ((A ++ v) ++ (⟨#[10]⟩ : ByteArray)).size = a + v.size + 1 := by rw [ByteArray.size_append, z1]; rfl
      have b1 : bs ((A ++ v) ++ (⟨#[10]⟩ : ByteArray)) = List.replicate a 32 ++ (bs v ++ [10]) := by rw [bs_append, bs_append, ba, List.append_assoc]; rfl
      have b2 : bs (B ++ ((A ++ v) ++ (⟨#[10]⟩ : ByteArray))) = List.replicate (b + a) 32 ++ (bs v ++ [10]) := by rw [bs_append, bb, b1, ← List.append_assoc, List.replicate_append_replicate]
      have asc (n : Nat) : Asc (List.replicate n 32 ++ (bs v ++ [10])) := by
        intro x hx
        rcases List.mem_append.1 hx with h1 | h1
        · rw [(List.mem_replicate.1 h1).2]; decide
        rcases List.mem_append.1 h1 with h2 | h2
        · exact hbit.a x h2
        · rw [List.mem_singleton.1 h2]; decide
      rw [if_pos (by omega), if_pos (by omega), Option.bind_some, if_pos (by show l1.length + 1 < _; omega), if_pos (by omega), if_pos (by omega), if_pos (by omega), Option.bind_some, if_pos (by show l2.length + 1 < _; omega), w64 (x := (i : Int) + 1) (by omega) (by omega), show (i : Int) + 1 = ((i + 1 : Nat) : Int) by omega]
      refine ih k (i + 1) _ _ (P ++ [(a, bs v)]) (by omega) (by omega) (by omega) (by rw [List.length_append, hl]; rfl) ?_ ?_ ?_ ?_ ?_ ?_
      · intro q hq
        rcases List.mem_append.1 hq with h | h
        · exact hW q h
        · rw [List.mem_singleton.1 h]; exact ⟨hbit, by show a ≤ 4; omega⟩
      · intro j hj
        rw [List.length_append] at hj
        simp only [List.length_cons, List.length_nil] at hj
        by_cases e : j < P.length
        · rw [List.getElem_append_left e]; exact hA j e
        · obtain rfl : j = i := by omega
          rw [List.getElem_append_right (by omega)]
          simp only [List.getElem_singleton]
          exact ha
      · intro x hx
        rcases List.mem_append.1 hx with h | h
        · exact s1 x h
        · rw [List.mem_singleton.1 h, b1]; exact ⟨by omega, asc a⟩
      · intro x hx
        rcases List.mem_append.1 hx with h | h
        · exact s2 x h
        · rw [List.mem_singleton.1 h, b2]; exact ⟨by rw [ByteArray.size_append]; omega, asc (b + a)⟩
      · rw [List.map_append, List.map_append, h1, List.map_cons, List.map_nil, List.map_cons, List.map_nil, b1, ownL_spaces, hbit.o]
        unfold ln
        rw [Nat.zero_add]
      · rw [List.map_append, List.map_append, h2, List.map_cons, List.map_nil, List.map_cons, List.map_nil, b2, ownL_spaces, hbit.o]
        rfl
    · exact fin k i l1 l2 P (by omega) (by omega) hx (by omega) hl hW hA s1 s2 h1 h2
theorem BlockIndent : correctorlaw8_BlockIndent.Pure := by
  intro l a1 a2 _ _ _ _ _
  obtain ⟨K, hK⟩ : ∃ K, 3000 < K := ⟨3001, by omega⟩
  refine ⟨K, ?_⟩
  obtain ⟨b, hb, b0, b1⟩ := within8 a1 9 (by decide) (by decide)
  obtain ⟨b, rfl⟩ : ∃ q : Nat, b = (q : Int) := ⟨b.toNat, by omega⟩
  unfold correctorlaw8_BlockIndent.f
  rw [known8 K (by omega), Option.bind_some, if_pos rfl, hb, Option.bind_some]
  exact indent_go l a2 b (by omega) 15 K 0 [] [] [] (by omega) (by omega) (by omega) rfl (fun x hx => by cases hx) (fun j hj => absurd hj (Nat.not_lt_zero _)) (fun x hx => by cases hx) (fun x hx => by cases hx) rfl rfl
end Go.Proofs.Ytpinegfbcbfnoaa.Pure
