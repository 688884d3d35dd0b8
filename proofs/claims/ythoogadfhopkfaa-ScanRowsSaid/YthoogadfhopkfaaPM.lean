/- What the program's Next answers. -/
import Derived.Test.YthoogadfhopkfaaN1
import Derived.Test.YthoogadfhopkfaaQrunes
import Derived.Test.YthoogadfhopkfaaRF0
import Derived.Lib.Bytes
import Derived.Test.YthoogadfhopkfaaSCD
namespace Go.Proofs.Ythoogadfhopkfaa.Pure
open Go.RowKit Go.Proofs.Ythoogadfhopkfaa.Q Go.Proofs.YthoogadfhopkfaaW.PrintWords Go.Proofs.YthoogadfhopkfaaW.PrintLast
theorem next_eq (l : List Int) (hb : Byt l) : runes_Next.f l = some (nx l) := by
  unfold runes_Next.f
  by_cases h : l.length = 0
  · rw [if_pos (by omega)]
    unfold nx
    rw [if_pos h]
  · rw [if_neg (by omega), next_plain _ (hb.take 4) (by rw [List.length_take]; omega), nx_take4]
end Go.Proofs.Ythoogadfhopkfaa.Pure
/- The program's scanner and the reference's: the looking functions answer alike. No program in it. -/
namespace Go.Proofs.Ythoogadfhopkfaa.Same
open Go.RowKit Go.Proofs.Ythoogadfhopkfaa.Q Go.Proofs.YthoogadfhopkfaaW.PrintWords Go.Proofs.YthoogadfhopkfaaW.PrintLast Go.Proofs.YthoogadfhopkfaaW.PrintMore Go.Proofs.Ythoogadfhopkfaa.Sc Go.Proofs.Ythoogadfhopkfaa.Rf Go.Proofs.Ythoogadfhopkfaa.Pure
set_option linter.unusedVariables false
set_option linter.unusedSimpArgs false
theorem ba_in {b : List Int} {i : Int} (h0 : 0 ≤ i) (h1 : i < (b.length : Int)) : ba b i = rd b i := if_pos ⟨h0, h1⟩
theorem ba_out {b : List Int} {i : Int} (h1 : ¬ i < (b.length : Int)) : ba b i = 0 := if_neg (fun h => h1 h.2)
theorem cut3 (b : List Int) (i : Int) (h0 : 0 ≤ i) (h3 : i + 3 ≤ (b.length : Int)) : cut b i (i + 3) = [rd b i, rd b (i + 1), rd b (i + 2)] := by
  obtain ⟨k, rfl⟩ : ∃ k : Nat, i = k := ⟨i.toNat, by omega⟩
  have e3 : ((k : Int) + 3).toNat = k + 3 := by omega
  unfold cut
  rw [e3, Int.toNat_natCast]
  apply List.ext_getElem?
  intro j
  have hr : ∀ m : Nat, k + m < b.length → rd b ((k : Int) + m) = b.getD (k + m) 0 := by
    intro m hm
    unfold Go.Proofs.YthoogadfhopkfaaW.PrintWords.rd
    rw [show ((k : Int) + m).toNat = k + m by omega]
  have r0 := hr 0 (by omega)
  have r1 := hr 1 (by omega)
  have r2 := hr 2 (by omega)
  simp only [Int.natCast_zero, Int.add_zero, Nat.add_zero] at r0
  rw [List.getElem?_drop]
  by_cases hj : j < 3
  · rw [List.getElem?_take_of_lt (by omega)]
    have hl : k + j < b.length := by omega
    rw [List.getElem?_eq_getElem hl]
    have : j = 0 ∨ j = 1 ∨ j = 2 := by omega
    rcases this with rfl | rfl | rfl
    · simp [r0, List.getD_eq_getElem?_getD, List.getElem?_eq_getElem (show k < b.length by omega)]
    · have := r1; simp at this ⊢; rw [this]; simp [List.getElem?_eq_getElem hl]
    · have := r2; simp at this ⊢; rw [this]; simp [List.getElem?_eq_getElem hl]
  · rw [List.getElem?_eq_none (by rw [List.length_take]; omega), List.getElem?_eq_none (by simp; omega)]
theorem of_byte {x : Int} (h0 : 0 ≤ x) (h1 : x ≤ 255) (n : Nat) (hn : n ≤ 255) : (UInt8.ofNat x.toNat == UInt8.ofNat n) = (x == (n : Int)) := by
  rw [Bool.eq_iff_iff, beq_iff_eq, beq_iff_eq, ← UInt8.toNat_inj, UInt8.toNat_ofNat', UInt8.toNat_ofNat']
  omega
theorem mark_eq (b : List Int) (hB : Byt b) (i : Int) (h0 : 0 ≤ i) : Sc.mark b i = markR b i := by
  by_cases l : (b.length : Int) < i + 3
  · have hR : markR b i = 0 := by unfold markR; rw [if_pos (.inl l)]
    rw [hR]
    unfold Sc.mark
    rw [if_pos (by simp [l])]
  · by_cases s : spc b (i + 3) = true
    · have a0 := hB.rd i
      have a1 := hB.rd (i + 1)
      have a2 := hB.rd (i + 2)
      have key : ∀ n : Nat, n ≤ 255 → (Go.Lib.bytesOf [rd b i, rd b (i + 1), rd b (i + 2)] == [UInt8.ofNat n, UInt8.ofNat n, UInt8.ofNat n]) = (decide (rd b i = (n : Int)) && (decide (rd b (i + 1) = (n : Int)) && decide (rd b (i + 2) = (n : Int)))) := by
        intro n hn
        show (UInt8.ofNat (rd b i).toNat == UInt8.ofNat n && (UInt8.ofNat (rd b (i + 1)).toNat == UInt8.ofNat n && (UInt8.ofNat (rd b (i + 2)).toNat == UInt8.ofNat n && true))) = _
        rw [of_byte a0.1 a0.2 n hn, of_byte a1.1 a1.2 n hn, of_byte a2.1 a2.2 n hn, Bool.and_true]
        rfl
      have hL : Sc.mark b i = if (decide (rd b i = 45) && (decide (rd b (i + 1) = 45) && decide (rd b (i + 2) = 45))) = true then 20 else if (decide (rd b i = 46) && (decide (rd b (i + 1) = 46) && decide (rd b (i + 2) = 46))) = true then 21 else 0 := by
        unfold Sc.mark
        rw [if_neg (by simp [l, s]), Go.Lib.strOfNums_toList, cut3 b i h0 (by omega)]
        rw [show ([45, 45, 45] : List UInt8) = [UInt8.ofNat 45, UInt8.ofNat 45, UInt8.ofNat 45] from rfl, show ([46, 46, 46] : List UInt8) = [UInt8.ofNat 46, UInt8.ofNat 46, UInt8.ofNat 46] from rfl]
        rw [key 45 (by omega), key 46 (by omega)]
        rfl
      rw [hL]
      have hba : ba b i = rd b i := ba_in h0 (by omega)
      by_cases c1 : rd b (i + 1) = rd b i
      · by_cases c2 : rd b (i + 2) = rd b i
        · have hR : markR b i = if rd b i = 45 then 20 else if rd b i = 46 then 21 else 0 := by
            unfold markR
            rw [hba, if_neg (fun h => h.elim l (fun h => h.elim (fun h => h c1) (fun h => h.elim (fun h => h c2) (fun h => by rw [s] at h; cases h))))]
          rw [hR, c1, c2]
          by_cases x : rd b i = 45
          · simp [x]
          · by_cases y : rd b i = 46
            · simp [y]
            · simp [x, y]
        · have hR : markR b i = 0 := by unfold markR; rw [hba, if_pos (.inr (.inr (.inl c2)))]
          have n1 : ∀ n : Int, (decide (rd b i = n) && (decide (rd b (i + 1) = n) && decide (rd b (i + 2) = n))) = false := by
            intro n
            by_cases x : rd b i = n
            · have : ¬ rd b (i + 2) = n := by omega
              simp [this]
            · simp [x]
          rw [hR, n1, n1]
          rfl
      · have hR : markR b i = 0 := by unfold markR; rw [hba, if_pos (.inr (.inl c1))]
        have n1 : ∀ n : Int, (decide (rd b i = n) && (decide (rd b (i + 1) = n) && decide (rd b (i + 2) = n))) = false := by
          intro n
          by_cases x : rd b i = n
          · have : ¬ rd b (i + 1) = n := by omega
            simp [this]
          · simp [x]
        rw [hR, n1, n1]
        rfl
    · have s2 : spc b (i + 3) = false := by simpa using s
      have hR : markR b i = 0 := by unfold markR; rw [if_pos (.inr (.inr (.inr s2)))]
      rw [hR]
      unfold Sc.mark
      rw [if_pos (by simp [s2])]
/-- The first sign, as the program reads it. -/
theorem next_is (l : List Int) (hb : Byt l) (h0 : l.length ≠ 0) : nextS (strOfNums (l.take 4)) = nx l := by
  have h := next_eq l hb
  unfold runes_Next.f at h
  rw [if_neg (by omega)] at h
  exact Option.some.inj h
end Go.Proofs.Ythoogadfhopkfaa.Same
/- The program's scanner and the reference's: blanks, heads, quoted texts answer alike. No program in it. -/
namespace Go.Proofs.Ythoogadfhopkfaa.Same
open Go.RowKit Go.Proofs.Ythoogadfhopkfaa.Q Go.Proofs.YthoogadfhopkfaaW.PrintWords Go.Proofs.YthoogadfhopkfaaW.PrintLast Go.Proofs.YthoogadfhopkfaaW.PrintMore Go.Proofs.Ythoogadfhopkfaa.Sc Go.Proofs.Ythoogadfhopkfaa.Rf Go.Proofs.Ythoogadfhopkfaa.Pure
set_option linter.unusedVariables false
set_option linter.unusedSimpArgs false
theorem brk_range (b : List Int) (i : Int) : 0 ≤ brk b i ∧ brk b i ≤ 2 := by
  unfold brk
  repeat' split
  all_goals omega
theorem brk_le {b : List Int} {i : Int} (h : 0 < brk b i) : i + brk b i ≤ (b.length : Int) := by
  unfold brk at h ⊢
  split
  · rename_i h1
    have := (th_true (Bool.and_eq_true _ _ |>.mp h1).2).1
    omega
  · rename_i h1
    rw [if_neg h1] at h
    split
    · rename_i h2
      rcases Bool.or_eq_true _ _ |>.mp h2 with h3 | h3 <;> have := (th_true h3).1 <;> omega
    · rename_i h2
      rw [if_neg h2] at h
      omega
theorem upto_at {n : Int} {p : Int → Bool} : ∀ {i : Int}, upto n p i < n → p (upto n p i) = false := by
  intro i h
  have key : ∀ (k : Nat) (i : Int), k = (n - i).toNat → upto n p i < n → p (upto n p i) = false := by
    intro k
    induction k with
    | zero =>
      intro i hk h
      rw [upto_end (by omega)] at h
      omega
    | succ k ih =>
      intro i hk h
      by_cases hp : p i = true
      · rw [upto_go (by omega) hp] at h ⊢
        exact ih (i + 1) (by omega) h
      · rw [upto_stop (by simpa using hp)]
        simpa using hp
  exact key _ i rfl h
/-- Behind a row there is more than ahead of it. -/
theorem line_more {b : List Int} {i : Int} (h : i < (b.length : Int)) : i < line b i + brk b (line b i) ∧ line b i + brk b (line b i) ≤ (b.length : Int) := by
  have h1 := upto_le (n := (b.length : Int)) (i := i) (p := fun j => brk b j == 0) (Int.le_of_lt h)
  have h0 : i ≤ line b i := h1.1
  have h2 : line b i ≤ (b.length : Int) := h1.2
  have h3 := brk_range b (line b i)
  by_cases h4 : line b i < (b.length : Int)
  · have h5 : (brk b (line b i) == 0) = false := upto_at (p := fun j => brk b j == 0) h4
    have h6 : brk b (line b i) ≠ 0 := by simpa using h5
    exact ⟨by omega, brk_le (by omega)⟩
  · have h7 : brk b (line b i) = 0 := by
      rcases Int.lt_or_le 0 (brk b (line b i)) with h8 | h8
      · have := brk_le h8; omega
      · omega
    omega
/-- Up to a nearer end is the same, where the walk stands still there. -/
theorem upto_cap {n m : Int} {p : Int → Bool} (hm : m ≤ n) (hp : m < n → p m = false) : ∀ {i : Int}, i ≤ m → upto m p i = upto n p i := by
  intro i h
  have key : ∀ (k : Nat) (i : Int), k = (m - i).toNat → i ≤ m → upto m p i = upto n p i := by
    intro k
    induction k with
    | zero =>
      intro i hk h
      have : i = m := by omega
      subst this
      rw [upto_end (by omega)]
      by_cases h2 : i < n
      · rw [upto_stop (hp h2)]
      · rw [upto_end h2]
    | succ k ih =>
      intro i hk h
      by_cases hq : p i = true
      · rw [upto_go (by omega) hq, upto_go (by omega) hq]
        exact ih (i + 1) (by omega) (by omega)
      · have hq2 : p i = false := by simpa using hq
        rw [upto_stop hq2, upto_stop hq2]
  exact key _ i rfl h
/-- A nearer stop on the way changes nothing. -/
theorem upto_two {n : Int} {p q : Int → Bool} (hpq : ∀ j, p j = true → q j = true) : ∀ {i : Int}, upto n q (upto n p i) = upto n q i := by
  intro i
  have key : ∀ (k : Nat) (i : Int), k = (n - i).toNat → upto n q (upto n p i) = upto n q i := by
    intro k
    induction k with
    | zero => intro i hk; rw [upto_end (p := p) (by omega)]
    | succ k ih =>
      intro i hk
      by_cases hp : p i = true
      · rw [upto_go (p := p) (by omega) hp, upto_go (p := q) (by omega) (hpq i hp)]
        exact ih (i + 1) (by omega)
      · rw [upto_stop (p := p) (by simpa using hp)]
  exact key _ i rfl
theorem line_in {b : List Int} {i : Int} (h : i ≤ (b.length : Int)) : i ≤ line b i ∧ line b i ≤ (b.length : Int) := upto_le (p := fun j => brk b j == 0) h
/-- A row ends with a break's byte. -/
theorem line_byte {b : List Int} {i : Int} (h : line b i < (b.length : Int)) : rd b (line b i) = 13 ∨ rd b (line b i) = 10 := by
  have h5 : (brk b (line b i) == 0) = false := upto_at (p := fun j => brk b j == 0) h
  have h6 : brk b (line b i) ≠ 0 := by simpa using h5
  by_cases a : rd b (line b i) = 13
  · exact .inl a
  · by_cases c : rd b (line b i) = 10
    · exact .inr c
    · exact absurd (by simp [brk, th, a, c]) h6
theorem blanks_row {b : List Int} {i : Int} (h : i ≤ (b.length : Int)) : upto (line b i) (fun j => Sc.blank (rd b j)) i = blanks b i := by
  refine upto_cap (line_in h).2 (fun hl => ?_) (line_in h).1
  rcases line_byte hl with e | e <;> simp [Sc.blank, e]
theorem spaces_row {b : List Int} {i : Int} (h : i ≤ (b.length : Int)) : upto (line b i) (fun j => rd b j == 32) i = spaces b i := by
  refine upto_cap (line_in h).2 (fun hl => ?_) (line_in h).1
  rcases line_byte hl with e | e <;> simp [e]
theorem sp2_eq {b : List Int} {s : RSt} (h : s.at_ ≤ (b.length : Int)) : sp2 b s = spaces b s.at_ := spaces_row h
theorem bl2_eq {b : List Int} {s : RSt} (h : s.at_ ≤ (b.length : Int)) : bl2 b s = blanks b s.at_ := by
  unfold bl2 sp2
  have hpq : ∀ j, (fun j => rd b j == 32) j = true → (fun j => Sc.blank (rd b j)) j = true := by
    intro j hj
    have e : rd b j = 32 := by simpa using hj
    simp [Sc.blank, e]
  rw [upto_two hpq]
  exact blanks_row h
theorem blanks_in {b : List Int} {i : Int} (h : i ≤ (b.length : Int)) : i ≤ blanks b i ∧ blanks b i ≤ line b i := by
  rw [← blanks_row h]
  exact upto_le (line_in h).1
theorem line_is {b : List Int} {x : Int} (h : x ≤ (b.length : Int)) : line b x = x ↔ ¬ (x < (b.length : Int) ∧ brk b x = 0) := by
  constructor
  · intro e h2
    have := upto_at (n := (b.length : Int)) (p := fun j => brk b j == 0) (i := x) (by show line b x < _; omega)
    have h3 : (brk b (line b x) == 0) = false := this
    rw [e] at h3
    simp [h2.2] at h3
  · intro h2
    by_cases h3 : x < (b.length : Int)
    · exact upto_stop (by simpa using fun h4 => h2 ⟨h3, h4⟩)
    · exact upto_end h3
theorem headTo_eq (b : List Int) (i : Int) (h0 : 0 ≤ i) : headTo b i = headJ b i := by
  unfold headTo headJ
  by_cases h : i + 1 < (b.length : Int)
  · rw [ba_in (by omega) h]
    by_cases a : rd b (i + 1) = 43
    · simp [th, a, h]
    · by_cases c : rd b (i + 1) = 45
      · simp [th, c, h]
      · simp [th, a, c]
  · rw [ba_out h]
    simp [th, h]
theorem head_eq (b : List Int) (op i : Int) (h0 : 0 ≤ i) (h1 : i < (b.length : Int)) : (0 < Sc.head b op i ↔ 0 < headR b op i) ∧ (0 < Sc.head b op i → Sc.head b op i = i + headR b op i) := by
  have e := headTo_eq b i h0
  have hj : headJ b i = i + 1 ∨ headJ b i = i + 2 := by unfold headJ; split <;> simp
  have hj2 : headJ b i ≤ (b.length : Int) := by
    rw [← e]
    unfold headTo
    split
    · rename_i h2
      rcases Bool.or_eq_true _ _ |>.mp h2 with h3 | h3 <;> have := (th_true h3).1 <;> omega
    · omega
  have hk : headJ b i ≤ blanks b (headJ b i) ∧ blanks b (headJ b i) ≤ (b.length : Int) := upto_le hj2
  have hle := line_is (b := b) hk.2
  have hok : headOk b i = true ↔ ¬ (headK b i < (b.length : Int) ∧ brk b (headK b i) = 0 ∧ ¬ (rd b (headK b i) = 35 ∧ headK b i > headJ b i)) := by
    unfold headOk headAt headK
    rw [e]
    rw [Bool.or_eq_true, Bool.and_eq_true, beq_iff_eq, eq_comm, hle, decide_eq_true_eq]
    constructor
    · rintro (h | ⟨h2, h3⟩) ⟨k1, k2, k3⟩
      · exact h ⟨k1, k2⟩
      · exact k3 ⟨by simpa using (th_true h3).2, h2⟩
    · intro h
      by_cases k : blanks b (headJ b i) < (b.length : Int) ∧ brk b (blanks b (headJ b i)) = 0
      · right
        by_cases k3 : rd b (blanks b (headJ b i)) = 35 ∧ blanks b (headJ b i) > headJ b i
        · exact ⟨k3.2, by simp [th, k.1, k3.1]⟩
        · exact absurd ⟨k.1, k.2, k3⟩ h
      · exact .inl k
  by_cases o : op > 0
  · have hL : Sc.head b op i = 0 := by unfold Sc.head; rw [if_pos o]
    have hR : headR b op i = 0 := by unfold headR; rw [if_pos (.inr o)]
    rw [hL, hR]
    exact ⟨Iff.rfl, fun h => by omega⟩
  · by_cases c : rd b i = 124 ∨ rd b i = 62
    · have hc : ¬ ((rd b i ≠ 124 ∧ rd b i ≠ 62) ∨ op > 0) := fun h => h.elim (fun h => c.elim h.1 h.2) o
      by_cases k : headOk b i = true
      · have hL : Sc.head b op i = headJ b i := by unfold Sc.head; rw [if_neg o, if_pos c, if_pos k, e]
        have hR : headR b op i = headJ b i - i := by unfold headR; rw [if_neg hc, if_neg (hok.mp k)]
        rw [hL, hR]
        exact ⟨⟨fun _ => by omega, fun _ => by omega⟩, fun _ => by omega⟩
      · have hL : Sc.head b op i = 0 := by unfold Sc.head; rw [if_neg o, if_pos c, if_neg k]
        have hR : headR b op i = 0 := by unfold headR; rw [if_neg hc, if_pos (Decidable.not_not.mp (fun h => k (hok.mpr h)))]
        rw [hL, hR]
        exact ⟨Iff.rfl, fun h => by omega⟩
    · have hL : Sc.head b op i = 0 := by unfold Sc.head; rw [if_neg o, if_neg c]
      have hR : headR b op i = 0 := by unfold headR; rw [if_pos (.inl ⟨fun h => c (.inl h), fun h => c (.inr h)⟩)]
      rw [hL, hR]
      exact ⟨Iff.rfl, fun h => by omega⟩
theorem sgl_eq (b : List Int) (e : Int) (he : e ≤ (b.length : Int)) (hb : e < (b.length : Int) → rd b e ≠ 39) : ∀ (k m : Nat) (i : Int), e - i ≤ (k : Int) → e - i ≤ (m : Int) → sgl b e k i = sglR b e m i := by
  intro k
  induction k with
  | zero =>
    intro m i h1 h2
    have hi : ¬ i < e := by omega
    cases m with
    | zero => rfl
    | succ m => simp only [sgl, sglR]; rw [if_neg hi]
  | succ k ih =>
    intro m i h1 h2
    by_cases hi : i < e
    · obtain ⟨m, rfl⟩ : ∃ m', m = m' + 1 := ⟨m - 1, by omega⟩
      simp only [sgl, sglR]
      rw [if_pos hi, if_pos hi]
      by_cases c : rd b i = 39
      · rw [if_pos c, if_pos c]
        by_cases d : i + 1 < e ∧ rd b (i + 1) = 39
        · have : th b (i + 1) 39 = true := by simp [th, d.2]; omega
          rw [if_pos this, if_pos d]
          exact ih m (i + 2) (by omega) (by omega)
        · have : ¬ th b (i + 1) 39 = true := by
            intro h
            have h3 := th_true h
            have h4 : rd b (i + 1) = 39 := by simpa using h3.2
            by_cases d2 : i + 1 < e
            · exact d ⟨d2, h4⟩
            · have : i + 1 = e := by omega
              rw [this] at h4 h3
              exact hb h3.1 h4
          rw [if_neg this, if_neg d]
      · rw [if_neg c, if_neg c]
        exact ih m (i + 1) (by omega) (by omega)
    · cases m with
      | zero => simp only [sgl, sglR]; rw [if_neg hi]
      | succ m => simp only [sgl, sglR]; rw [if_neg hi, if_neg hi]
theorem single_eq (b : List Int) (i : Int) (h : i < (b.length : Int)) : Sc.single b i = singleR b (i + 1) (line b i) := by
  have hl := line_in (b := b) (i := i) (by omega)
  unfold Sc.single singleR
  exact sgl_eq b _ hl.2 (fun h2 => by rcases line_byte h2 with e | e <;> omega) _ _ _ (by omega) (by omega)
theorem dbl_fuel (b : List Int) (e : Int) : ∀ (k m : Nat) (i : Int), e - i ≤ (k : Int) → e - i ≤ (m : Int) → dbl b e k i = dbl b e m i ∧ dbl b e k i ≤ e := by
  intro k
  induction k with
  | zero =>
    intro m i h1 h2
    have hi : ¬ i < e := by omega
    cases m with
    | zero => exact ⟨rfl, Int.le_refl _⟩
    | succ m => simp only [dbl]; rw [if_neg hi]; exact ⟨rfl, Int.le_refl _⟩
  | succ k ih =>
    intro m i h1 h2
    by_cases hi : i < e
    · obtain ⟨m, rfl⟩ : ∃ m', m = m' + 1 := ⟨m - 1, by omega⟩
      simp only [dbl]
      rw [if_pos hi, if_pos hi]
      by_cases c : rd b i = 34
      · rw [if_pos c, if_pos c]; exact ⟨rfl, by omega⟩
      · rw [if_neg c, if_neg c]
        by_cases d : rd b i = 92
        · rw [if_pos d, if_pos d]; exact ih m (i + 2) (by omega) (by omega)
        · rw [if_neg d, if_neg d]; exact ih m (i + 1) (by omega) (by omega)
    · cases m with
      | zero => simp only [dbl]; rw [if_neg hi]; exact ⟨rfl, Int.le_refl _⟩
      | succ m => simp only [dbl]; rw [if_neg hi, if_neg hi]; exact ⟨rfl, Int.le_refl _⟩
theorem double_eq (b : List Int) (i : Int) (h : i < (b.length : Int)) : Sc.double b i = mn (doubleR b (i + 1) (line b i)) (line b i) := by
  have hl := line_in (b := b) (i := i) (by omega)
  unfold Sc.double doubleR
  have h1 := dbl_fuel b (line b i) (line b i - i).toNat (line b i - (i + 1)).toNat (i + 1) (by omega) (by omega)
  have h2 := dbl_fuel b (line b i) (line b i - (i + 1)).toNat (line b i - (i + 1)).toNat (i + 1) (by omega) (by omega)
  rw [h1.1]
  unfold mn
  rw [if_neg (by omega)]
end Go.Proofs.Ythoogadfhopkfaa.Same
/- The program's scanner and the reference's: plain texts end alike. No program in it. -/
namespace Go.Proofs.Ythoogadfhopkfaa.Same
open Go.RowKit Go.Proofs.Ythoogadfhopkfaa.Q Go.Proofs.YthoogadfhopkfaaW.PrintWords Go.Proofs.YthoogadfhopkfaaW.PrintLast Go.Proofs.YthoogadfhopkfaaW.PrintMore Go.Proofs.Ythoogadfhopkfaa.Sc Go.Proofs.Ythoogadfhopkfaa.Rf Go.Proofs.Ythoogadfhopkfaa.Pure
set_option linter.unusedVariables false
set_option linter.unusedSimpArgs false
/-- A sign is the same, where the bytes end ahead of one that goes on with none. -/
theorem nx_cap (l : List Int) (n : Nat) (h1 : 1 ≤ n) (hc : n < l.length → ¬ Ct (rd l (n : Int))) : nx (l.take n) = nx l := by
  by_cases hn : l.length ≤ n
  · rw [List.take_of_length_le hn]
  · have hl : (l.take n).length = n := by rw [List.length_take]; omega
    have hc := hc (by omega)
    have e0 : rd (l.take n) 0 = rd l 0 := rd_take _ _ _ (by simp; omega)
    have o2 : (if Ok2 (l.take n) then (v2 (l.take n), (2 : Int)) else (-1, 1)) = if Ok2 l then (v2 l, 2) else (-1, 1) := by
      by_cases h2 : 2 ≤ n
      · have e1 : rd (l.take n) 1 = rd l 1 := rd_take _ _ _ (by simp; omega)
        have v : v2 (l.take n) = v2 l := by unfold v2; rw [e0, e1]
        have k : Ok2 (l.take n) ↔ Ok2 l := by
          unfold Ok2
          rw [e1, v, hl]
          exact ⟨fun h => ⟨by omega, h.2⟩, fun h => ⟨by omega, h.2⟩⟩
        simp only [k, v]
      · rw [if_neg (fun o => by have := o.1; rw [hl] at this; omega), if_neg (fun o => hc (by rw [show n = 1 by omega]; exact o.2.1))]
    have o3 : (if Ok3 (l.take n) then (v3 (l.take n), (3 : Int)) else (-1, 1)) = if Ok3 l then (v3 l, 3) else (-1, 1) := by
      by_cases h2 : 3 ≤ n
      · have e1 : rd (l.take n) 1 = rd l 1 := rd_take _ _ _ (by simp; omega)
        have e2 : rd (l.take n) 2 = rd l 2 := rd_take _ _ _ (by simp; omega)
        have v : v3 (l.take n) = v3 l := by unfold v3; rw [e0, e1, e2]
        have k : Ok3 (l.take n) ↔ Ok3 l := by
          unfold Ok3
          rw [e1, e2, v, hl]
          exact ⟨fun h => ⟨by omega, h.2⟩, fun h => ⟨by omega, h.2⟩⟩
        simp only [k, v]
      · rw [if_neg (fun o => by have := o.1; rw [hl] at this; omega), if_neg (fun o => hc (by
          rcases (by omega : n = 1 ∨ n = 2) with r | r
          · rw [r]; exact o.2.1
          · rw [r]; exact o.2.2.1))]
    have o4 : (if Ok4 (l.take n) then (v4 (l.take n), (4 : Int)) else (-1, 1)) = if Ok4 l then (v4 l, 4) else (-1, 1) := by
      by_cases h2 : 4 ≤ n
      · have e1 : rd (l.take n) 1 = rd l 1 := rd_take _ _ _ (by simp; omega)
        have e2 : rd (l.take n) 2 = rd l 2 := rd_take _ _ _ (by simp; omega)
        have e3 : rd (l.take n) 3 = rd l 3 := rd_take _ _ _ (by simp; omega)
        have v : v4 (l.take n) = v4 l := by unfold v4; rw [e0, e1, e2, e3]
        have k : Ok4 (l.take n) ↔ Ok4 l := by
          unfold Ok4
          rw [e1, e2, e3, v, hl]
          exact ⟨fun h => ⟨by omega, h.2⟩, fun h => ⟨by omega, h.2⟩⟩
        simp only [k, v]
      · rw [if_neg (fun o => by have := o.1; rw [hl] at this; omega), if_neg (fun o => hc (by
          rcases (by omega : n = 1 ∨ n = 2 ∨ n = 3) with r | r | r
          · rw [r]; exact o.2.1
          · rw [r]; exact o.2.2.1
          · rw [r]; exact o.2.2.2.1))]
    unfold nx
    rw [hl, e0, if_neg (show ¬ n = 0 by omega), if_neg (show ¬ l.length = 0 by omega), o2, o3, o4]
theorem get_drop (l : List Int) (p k : Nat) : (strOfNums l).get! (p + k) = (strOfNums (l.drop p)).get! (0 + k) := by
  unfold strOfNums
  rw [Nat.zero_add]
  show ((⟨(l.map fun n => UInt8.ofNat n.toNat).toArray⟩ : ByteArray).get! (p + k)) = ((⟨((l.drop p).map fun n => UInt8.ofNat n.toNat).toArray⟩ : ByteArray).get! k)
  simp only [ByteArray.get!]
  rw [List.map_drop]
  simp
theorem dec_drop (l : List Int) (p : Nat) (hp : p ≤ l.length) : Utf8.decode (strOfNums l) p = Utf8.decode (strOfNums (l.drop p)) 0 := by
  unfold Utf8.decode
  have hd : (l.drop p).length = l.length - p := List.length_drop
  have e : ∀ k, (decide (p + k < l.length)) = decide (0 + k < l.length - p) := fun k => by
    by_cases h : p + k < l.length
    · rw [decide_eq_true h, decide_eq_true (by omega)]
    · rw [decide_eq_false h, decide_eq_false (by omega)]
  have g := get_drop l p
  simp only [g, size_strOfNums, hd, e]
/-- The sign at x. -/
def sg (b : List Int) (x : Int) : Int × Int := nx (b.drop x.toNat)
theorem cut_nx (b : List Int) (i x : Int) (h0 : 0 ≤ x) (h1 : x < line b i) (hl : line b i ≤ (b.length : Int)) : nx (cut b x (line b i)) = sg b x := by
  unfold cut sg
  rw [List.drop_take]
  refine nx_cap _ _ (by omega) (fun h => ?_)
  rw [List.length_drop] at h
  have hr : rd (b.drop x.toNat) (((line b i).toNat - x.toNat : Nat) : Int) = rd b (line b i) := by
    unfold Go.Proofs.YthoogadfhopkfaaW.PrintWords.rd
    rw [List.getD_eq_getElem?_getD, List.getD_eq_getElem?_getD, List.getElem?_drop, show x.toNat + ((((line b i).toNat - x.toNat : Nat) : Int)).toNat = (line b i).toNat by omega]
  rw [hr]
  unfold Ct
  rcases line_byte (b := b) (i := i) (by omega) with e | e <;> omega
theorem cut_nx' (b : List Int) (i x : Int) (h0 : 0 ≤ x) (h1 : x < line b i) (hl : line b i ≤ (b.length : Int)) (hx : i ≤ x) : nx (cut b x (line b i)) = sg b x := cut_nx b i x h0 h1 hl
theorem sg_low {b : List Int} {x : Int} (h0 : 0 ≤ x) (h1 : x < (b.length : Int)) (h : rd b x < 128) : sg b x = (rd b x, 1) := by
  have hr : rd (b.drop x.toNat) 0 = rd b x := by
    unfold Go.Proofs.YthoogadfhopkfaaW.PrintWords.rd
    rw [List.getD_eq_getElem?_getD, List.getD_eq_getElem?_getD, List.getElem?_drop]
    rfl
  unfold sg
  rw [nx_1 (by rw [List.length_drop]; omega) (by rw [hr]; exact h), hr]
/-- A sign of more bytes ends with one that is no blank. -/
theorem sg_last {b : List Int} (hB : Byt b) {x : Int} (h0 : 0 ≤ x) (h1 : x < (b.length : Int)) (h : ¬ rd b x < 128) : ((sg b x).1 < 0 ∨ 128 ≤ (sg b x).1) ∧ 128 ≤ rd b (x + (sg b x).2 - 1) := by
  have hr : ∀ j : Nat, rd (b.drop x.toNat) (j : Int) = rd b (x + j) := by
    intro j
    unfold Go.Proofs.YthoogadfhopkfaaW.PrintWords.rd
    rw [List.getD_eq_getElem?_getD, List.getD_eq_getElem?_getD, List.getElem?_drop, show (x + j).toNat = x.toNat + ((j : Int)).toNat by omega]
  have r0 := hr 0
  have r1 := hr 1
  have r2 := hr 2
  have r3 := hr 3
  simp only [Int.natCast_zero, Int.add_zero, Int.natCast_one] at r0 r1
  unfold sg
  rcases nx_cases (b.drop x.toNat) (by rw [List.length_drop]; omega) with ⟨h2, e⟩ | ⟨h2, h', ⟨o1, o2, o3⟩, e⟩ | ⟨h2, h', ⟨o1, o2, o3, o4, o5⟩, e⟩ | ⟨h2, h', ⟨o1, o2, o3, o4, o5, o6⟩, e⟩ | ⟨h2, e⟩ <;> rw [e]
  · exact absurd (by rw [← r0]; exact h2) h
  · refine ⟨.inr o3, ?_⟩
    simp only
    rw [show x + 2 - 1 = x + 1 by omega, ← r1]
    exact o2.1
  · refine ⟨.inr (by simp only; omega), ?_⟩
    simp only
    rw [show x + 3 - 1 = x + ((2 : Nat) : Int) by omega, ← r2]
    exact o3.1
  · refine ⟨.inr (by simp only; omega), ?_⟩
    simp only
    rw [show x + 4 - 1 = x + ((3 : Nat) : Int) by omega, ← r3]
    exact o4.1
  · refine ⟨.inl (by simp only; omega), ?_⟩
    simp only
    rw [show x + 1 - 1 = x by omega]
    omega
end Go.Proofs.Ythoogadfhopkfaa.Same
/- The program's scanner and the reference's: plain texts. No program in it. -/
namespace Go.Proofs.Ythoogadfhopkfaa.Same
open Go.RowKit Go.Proofs.Ythoogadfhopkfaa.Q Go.Proofs.YthoogadfhopkfaaW.PrintWords Go.Proofs.YthoogadfhopkfaaW.PrintLast Go.Proofs.YthoogadfhopkfaaW.PrintMore Go.Proofs.Ythoogadfhopkfaa.Sc Go.Proofs.Ythoogadfhopkfaa.Rf Go.Proofs.Ythoogadfhopkfaa.Pure
set_option linter.unusedVariables false
set_option linter.unusedSimpArgs false
theorem upto_in {n : Int} {p : Int → Bool} : ∀ {i j : Int}, i ≤ j → j < upto n p i → p j = true := by
  intro i j h h2
  have key : ∀ (k : Nat) (i : Int), k = (n - i).toNat → i ≤ j → j < upto n p i → p j = true := by
    intro k
    induction k with
    | zero =>
      intro i hk h h2
      rw [upto_end (by omega)] at h2
      omega
    | succ k ih =>
      intro i hk h h2
      by_cases hp : p i = true
      · by_cases e : i = j
        · rw [← e]; exact hp
        · rw [upto_go (by omega) hp] at h2
          exact ih (i + 1) (by omega) (by omega) h2
      · rw [upto_stop (by simpa using hp)] at h2
        omega
  exact key _ i rfl h h2
theorem line_clear {b : List Int} {i x : Int} (h : i ≤ x) (h2 : x < line b i) : brk b x = 0 := by
  have := upto_in (p := fun j => brk b j == 0) h h2
  simpa using this
theorem cut_length (b : List Int) (i e : Int) (h : e ≤ (b.length : Int)) (h0 : 0 ≤ i) : (cut b i e).length = e.toNat - i.toNat := by
  unfold cut
  rw [List.length_drop, List.length_take]
  omega
theorem cut_drop (b : List Int) (i e : Int) (p : Nat) (h0 : 0 ≤ i) : (cut b i e).drop p = cut b (i + p) e := by
  unfold cut
  rw [List.drop_drop, show i.toNat + p = (i + p).toNat by omega]
theorem cut_byt {b : List Int} (hB : Byt b) (i e : Int) : Byt (cut b i e) := (hB.take _).drop _
/-- What the program reads at p of a row's text. -/
theorem dec_at (b : List Int) (hB : Byt b) (i : Int) (p : Nat) (h0 : 0 ≤ i) (hl : i ≤ (b.length : Int)) (h : i + p < line b i) :
    Utf8.decode (strOfNums (cut b i (line b i))) p = if (sg b (i + p)).1 < 0 then (65533, 1) else ((sg b (i + p)).1.toNat, (sg b (i + p)).2.toNat) := by
  have hle := line_in hl
  rw [dec_drop _ p (by rw [cut_length b i _ hle.2 h0]; omega), cut_drop b i _ p h0, dec_plain _ (cut_byt hB _ _) (by rw [cut_length b _ _ hle.2 (by omega)]; omega), cut_nx' b i (i + p) (by omega) h hle.2 (by omega)]
theorem nxt_is (b : List Int) (hB : Byt b) (i x : Int) (h0 : 0 ≤ i) (hl : i ≤ (b.length : Int)) (hx : i ≤ x) (h : x < line b i) : nxt b x (line b i) = sg b x := by
  have hle := line_in hl
  unfold nxt
  rw [next_is _ (cut_byt hB _ _) (by rw [cut_length b _ _ hle.2 (by omega)]; omega), cut_nx' b i x (by omega) h hle.2 hx]
/-- A number's sign: what plGo asks of it. -/
theorem rune_at (b : List Int) (hB : Byt b) (i p : Int) (hp : 0 ≤ p) (h0 : 0 ≤ i) (hl : i ≤ (b.length : Int)) (h : i + p < line b i) :
    rdNext (strOfNums (cut b i (line b i))) p = p + (sg b (i + p)).2 ∧ 1 ≤ (sg b (i + p)).2 ∧ i + p + (sg b (i + p)).2 ≤ line b i ∧ ((rd b (i + p) < 128 ∧ rdRune (strOfNums (cut b i (line b i))) p = rd b (i + p)) ∨ (128 ≤ rd b (i + p) ∧ 128 ≤ rdRune (strOfNums (cut b i (line b i))) p ∧ 128 ≤ rd b (i + p + (sg b (i + p)).2 - 1))) := by
  have hle := line_in hl
  obtain ⟨q, rfl⟩ : ∃ q : Nat, p = q := ⟨p.toNat, by omega⟩
  have hd := dec_at b hB i q h0 hl h
  have hc := cut_nx' b i (i + q) (by omega) h hle.2 (by omega)
  have hf := nx_fine (cut b (i + q) (line b i)) (cut_byt hB _ _) (by rw [cut_length b _ _ hle.2 (by omega)]; omega)
  rw [hc, cut_length b _ _ hle.2 (by omega)] at hf
  have hn : rdNext (strOfNums (cut b i (line b i))) (q : Int) = q + (sg b (i + q)).2 := by
    unfold rdNext
    rw [Int.toNat_natCast, hd]
    by_cases c : (sg b (i + q)).1 < 0
    · rw [if_pos c, hf.2.2.2.2.2 c]
      rfl
    · rw [if_neg c]
      show ((q + (sg b (i + q)).2.toNat : Nat) : Int) = _
      omega
  refine ⟨hn, hf.1, by omega, ?_⟩
  by_cases c : rd b (i + q) < 128
  · refine .inl ⟨c, ?_⟩
    have hs := sg_low (b := b) (x := i + q) (by omega) (by omega) c
    unfold rdRune
    rw [Int.toNat_natCast, hd, hs]
    have := hB.rd (i + q)
    rw [if_neg (by simp only; omega)]
    show ((rd b (i + q)).toNat : Int) = _
    omega
  · have hs := sg_last hB (x := i + q) (by omega) (by omega) c
    refine .inr ⟨by omega, ?_, hs.2⟩
    unfold rdRune
    rw [Int.toNat_natCast, hd]
    by_cases d : (sg b (i + q)).1 < 0
    · rw [if_pos d]; decide
    · rw [if_neg d]
      show 128 ≤ ((sg b (i + q)).1.toNat : Int)
      omega
/-- Back over blanks from x, down to m, one comes to t. -/
def Tr (b : List Int) (m x t : Int) : Prop := ∀ k : Nat, x - m ≤ (k : Int) → trimR b m k x = t
theorem Tr.stop {b : List Int} {m x : Int} (h : x ≤ m ∨ Sc.blank (rd b (x - 1)) = false) : Tr b m x x := by
  intro k hk
  cases k with
  | zero => rfl
  | succ k =>
    simp only [trimR]
    rw [if_neg (fun h2 => h.elim (fun h => by omega) (fun h => by rw [h2.2] at h; cases h))]
theorem Tr.back {b : List Int} {m x t : Int} (h : Tr b m x t) (h1 : m < x + 1) (h2 : Sc.blank (rd b x) = true) : Tr b m (x + 1) t := by
  intro k hk
  obtain ⟨j, rfl⟩ : ∃ j, k = j + 1 := ⟨k - 1, by omega⟩
  simp only [trimR]
  rw [if_pos ⟨by omega, by rw [show x + 1 - 1 = x by omega]; exact h2⟩, show x + 1 - 1 = x by omega]
  exact h j (by omega)
theorem plGo_eq (b : List Int) (hB : Byt b) (op i : Int) (h0 : 0 ≤ i) (hl : i ≤ (b.length : Int)) : ∀ (k : Nat) (p t : Int) (bl : Bool), 0 < p → i + p ≤ line b i → line b i - (i + p) ≤ (k : Int) → bl = Sc.blank (rd b (i + p - 1)) → Tr b (i + 1) (i + p) t →
    ∀ m : Nat, (b.length : Int) - (i + p) ≤ (m : Int) → Tr b (i + 1) (plR b op m (i + p)) (plGo b op i (line b i) (strOfNums (cut b i (line b i))) k p t bl) := by
  have hle := line_in hl
  have hsz : ((strOfNums (cut b i (line b i))).size : Int) = line b i - i := by
    rw [size_strOfNums, cut_length b i _ hle.2 h0]
    omega
  intro k
  have fin : ∀ (k : Nat) (p t : Int) (bl : Bool), 0 < p → i + p = line b i → Tr b (i + 1) (i + p) t → ∀ m : Nat, (b.length : Int) - (i + p) ≤ (m : Int) → Tr b (i + 1) (plR b op m (i + p)) (plGo b op i (line b i) (strOfNums (cut b i (line b i))) k p t bl) := by
    intro k p t bl hp he ht m hm
    have e1 : plGo b op i (line b i) (strOfNums (cut b i (line b i))) k p t bl = t := by
      cases k with
      | zero => rfl
      | succ k => simp only [plGo]; rw [if_neg (by omega)]
    have e2 : plR b op m (i + p) = i + p := by
      cases m with
      | zero => rfl
      | succ m =>
        simp only [plR]
        by_cases c : i + p < (b.length : Int)
        · have hb : 0 < brk b (i + p) := by
            have h5 : (brk b (line b i) == 0) = false := upto_at (p := fun j => brk b j == 0) (by show line b i < _; omega)
            have h6 : brk b (line b i) ≠ 0 := by simpa using h5
            have := brk_range b (line b i)
            rw [he]
            omega
          rw [if_pos c, if_pos (by unfold plStop; simp [hb])]
        · rw [if_neg c]
    rw [e1, e2]
    exact ht
  induction k with
  | zero =>
    intro p t bl hp h1 h2 _ ht m hm
    exact fin 0 p t bl hp (by omega) ht m hm
  | succ k ih =>
    intro p t bl hp h1 h2 hbl ht m hm
    by_cases he : i + p = line b i
    · exact fin (k + 1) p t bl hp he ht m hm
    · have hx : i + p < line b i := by omega
      obtain ⟨m, rfl⟩ : ∃ m', m = m' + 1 := ⟨m - 1, by omega⟩
      obtain ⟨r1, r2, r3, r4⟩ := rune_at b hB i p (by omega) h0 hl hx
      have hnx := nxt_is b hB i (i + p) h0 hl (by omega) hx
      have hbr := line_clear (b := b) (i := i) (x := i + p) (by omega) hx
      have hbb := hB.rd (i + p)
      simp only [plGo, plR]
      rw [if_pos (show p < ((strOfNums (cut b i (line b i))).size : Int) by omega), if_pos (show i + p < (b.length : Int) by omega), r1, hnx]
      generalize rdRune (strOfNums (cut b i (line b i))) p = R at *
      have q35 : R = 35 ↔ rd b (i + p) = 35 := by rcases r4 with ⟨a, c⟩ | ⟨a, c, d⟩ <;> omega
      have qfl : (R < 128 ∧ flow (R % 256) = true) ↔ flow (rd b (i + p)) = true := by
        rcases r4 with ⟨a, c⟩ | ⟨a, c, d⟩
        · rw [c, show rd b (i + p) % 256 = rd b (i + p) by omega]
          exact ⟨fun h => h.2, fun h => ⟨a, h⟩⟩
        · constructor
          · intro h; omega
          · intro h
            simp only [flow, Bool.or_eq_true, beq_iff_eq] at h
            omega
      have qbl : (R = 32 ∨ R = 9) ↔ Sc.blank (rd b (i + p)) = true := by
        simp only [Sc.blank, Bool.or_eq_true, beq_iff_eq]
        rcases r4 with ⟨a, c⟩ | ⟨a, c, d⟩ <;> omega
      have qst : plStop b op (i + p) = true ↔ (((sg b (i + p)).1 < 0 ∨ colon b op (i + p) = true ∨ (rd b (i + p) = 35 ∧ bl = true)) ∨ (op > 0 ∧ flow (rd b (i + p)) = true)) := by
        unfold plStop
        rw [hbl]
        simp only [Bool.or_eq_true, Bool.and_eq_true, decide_eq_true_eq, beq_iff_eq, hbr]
        show ((sg b (i + p)).1 < 0 ∨ 0 < (0 : Int) ∨ _) ↔ _
        constructor
        · rintro (h | h | h | h | h)
          · exact .inl (.inl h)
          · omega
          · exact .inl (.inr (.inl h))
          · exact .inl (.inr (.inr h))
          · exact .inr h
        · rintro ((h | h | h) | h)
          · exact .inl h
          · exact .inr (.inr (.inl h))
          · exact .inr (.inr (.inr (.inl h)))
          · exact .inr (.inr (.inr (.inr h)))
      by_cases c1 : (sg b (i + p)).1 < 0 ∨ colon b op (i + p) = true ∨ (rd b (i + p) = 35 ∧ bl = true)
      · have c1' : p > 0 ∧ ((sg b (i + p)).1 < 0 ∨ colon b op (i + p) = true ∨ (R = 35 ∧ bl = true)) := ⟨hp, by rw [q35]; exact c1⟩
        rw [if_pos (qst.mpr (.inl c1)), if_pos c1']
        exact ht
      · have c1' : ¬ (p > 0 ∧ ((sg b (i + p)).1 < 0 ∨ colon b op (i + p) = true ∨ (R = 35 ∧ bl = true))) := fun h => c1 (by have h2 := h.2; rw [q35] at h2; exact h2)
        rw [if_neg c1']
        by_cases c2 : op > 0 ∧ flow (rd b (i + p)) = true
        · have c2' : p > 0 ∧ op > 0 ∧ R < 128 ∧ flow (R % 256) = true := ⟨hp, c2.1, qfl.mpr c2.2⟩
          rw [if_pos (qst.mpr (.inr c2)), if_pos c2']
          exact ht
        · have c2' : ¬ (p > 0 ∧ op > 0 ∧ R < 128 ∧ flow (R % 256) = true) := fun h => c2 ⟨h.2.1, qfl.mp h.2.2⟩
          have c3 : ¬ plStop b op (i + p) = true := fun h => (qst.mp h).elim c1 c2
          rw [if_neg c2', if_neg c3]
          have ea : i + (p + (sg b (i + p)).2) = i + p + (sg b (i + p)).2 := by omega
          have key := ih (p + (sg b (i + p)).2) (if R = 32 ∨ R = 9 then t else i + p + (sg b (i + p)).2) (R == 32 || R == 9) (by omega) (by omega) (by omega)
          rw [ea] at key
          show Tr b (i + 1) (plR b op m (i + p + (sg b (i + p)).2)) _
          refine key ?_ ?_ m (by omega)
          · rcases r4 with ⟨a, c⟩ | ⟨a, c, d⟩
            · have hs := sg_low (b := b) (x := i + p) (by omega) (by omega) a
              rw [hs, c]
              simp only
              rw [show i + p + 1 - 1 = i + p by omega]
              rfl
            · rw [Bool.eq_iff_iff]
              simp only [Sc.blank, Bool.or_eq_true, beq_iff_eq]
              omega
          · rcases r4 with ⟨a, c⟩ | ⟨a, c, d⟩
            · have hs := sg_low (b := b) (x := i + p) (by omega) (by omega) a
              rw [hs]
              simp only
              by_cases bb : Sc.blank (rd b (i + p)) = true
              · rw [if_pos (qbl.mpr bb)]
                exact ht.back (by omega) bb
              · rw [if_neg (fun h => bb (qbl.mp h))]
                exact Tr.stop (.inr (by rw [show i + p + 1 - 1 = i + p by omega]; simpa using bb))
            · rw [if_neg (by omega)]
              refine Tr.stop (.inr ?_)
              rw [Bool.eq_false_iff]
              simp only [Sc.blank, ne_eq, Bool.or_eq_true, beq_iff_eq]
              omega
theorem plain_eq (b : List Int) (hB : Byt b) (op i : Int) (h0 : 0 ≤ i) (hi : i < line b i) (hl : i ≤ (b.length : Int)) (hb : Sc.blank (rd b i) = false) : Sc.plain b op i = plainR b op i := by
  have hle := line_in hl
  have hsz : (strOfNums (cut b i (line b i))).size = (line b i - i).toNat := by
    rw [size_strOfNums, cut_length b i _ hle.2 h0]
    omega
  obtain ⟨k, hk⟩ : ∃ k, (line b i - i).toNat = k + 1 := ⟨(line b i - i).toNat - 1, by omega⟩
  obtain ⟨r1, r2, r3, r4⟩ := rune_at b hB i 0 (by omega) h0 hl (by omega)
  have hnx := nxt_is b hB i (i + 0) h0 hl (by omega) (by omega)
  have hr : ¬ (rdRune (strOfNums (cut b i (line b i))) 0 = 32 ∨ rdRune (strOfNums (cut b i (line b i))) 0 = 9) := by
    intro h
    have : Sc.blank (rd b i) = true := by
      simp only [Sc.blank, Bool.or_eq_true, beq_iff_eq]
      rw [Int.add_zero] at r4
      omega
    rw [hb] at this
    cases this
  have hr2 : (rdRune (strOfNums (cut b i (line b i))) 0 == 32 || rdRune (strOfNums (cut b i (line b i))) 0 == 9) = false := by
    rw [Bool.eq_false_iff]
    simpa using hr
  unfold Sc.plain
  rw [hsz, hk]
  simp only [plGo]
  rw [if_pos (by rw [hsz]; omega), if_neg (fun h => by have := h.1; omega), if_neg (fun h => by have := h.1; omega), r1, hnx, if_neg hr, hr2]
  rw [Int.add_zero] at *
  rw [Int.zero_add]
  have key := plGo_eq b hB op i h0 hl k (sg b i).2 (i + (sg b i).2) false (by omega) (by omega) (by omega) ?_ ?_ ((b.length : Int) - (i + (sg b i).2)).toNat (by omega)
  · exact (key ((plR b op ((b.length : Int) - (i + (sg b i).2)).toNat (i + (sg b i).2)) - (i + 1)).toNat (by omega)).symm
  · rcases r4 with ⟨a, c⟩ | ⟨a, c, d⟩
    · have hs := sg_low (b := b) (x := i) (by omega) (by omega) a
      rw [hs]
      simp only
      rw [show i + 1 - 1 = i by omega, hb]
    · rw [eq_comm, Bool.eq_false_iff]
      simp only [Sc.blank, ne_eq, Bool.or_eq_true, beq_iff_eq]
      omega
  · rcases r4 with ⟨a, c⟩ | ⟨a, c, d⟩
    · have hs := sg_low (b := b) (x := i) (by omega) (by omega) a
      rw [hs]
      exact Tr.stop (.inl (by simp only; omega))
    · refine Tr.stop (.inr ?_)
      rw [Bool.eq_false_iff]
      simp only [Sc.blank, ne_eq, Bool.or_eq_true, beq_iff_eq]
      omega
end Go.Proofs.Ythoogadfhopkfaa.Same
/- The program's scanner and the reference's: step by step alike. No program in it. -/
namespace Go.Proofs.Ythoogadfhopkfaa.Same
open Go.RowKit Go.Proofs.Ythoogadfhopkfaa.Q Go.Proofs.YthoogadfhopkfaaW.PrintWords Go.Proofs.YthoogadfhopkfaaW.PrintLast Go.Proofs.YthoogadfhopkfaaW.PrintMore Go.Proofs.Ythoogadfhopkfaa.Sc Go.Proofs.Ythoogadfhopkfaa.Rf Go.Proofs.Ythoogadfhopkfaa.Pure
set_option linter.unusedVariables false
set_option linter.unusedSimpArgs false
theorem last_add (l : List S32) (x : S32) : last (l ++ [x]) = x.f0 := by
  unfold last rd_T32
  rw [if_neg (by simp), show (((l ++ [x]).length : Int) - 1).toNat = l.length by simp]
  simp [List.getD_eq_getElem?_getD]
/-- The reference's numbers are as they must be. -/
structure Fine (b : List Int) (s : RSt) : Prop where
  r0 : 0 ≤ s.row
  r1 : s.row ≤ s.at_
  a1 : s.at_ ≤ (b.length : Int)
  n : (s.l.length : Int) ≤ s.at_
  o0 : 0 ≤ s.op
  o1 : s.op ≤ s.at_
  b0 : -1 ≤ s.base
  b1 : s.base ≤ s.at_
  t0 : -2 ≤ s.text
  t1 : s.text ≤ s.at_
  c : s.at_ = s.row ∨ 0 < s.l.length
theorem Fine.okR {b : List Int} {s : RSt} (h : Fine b s) : okR b s = true := by
  have := h.r0; have := h.r1; have := h.a1; have := h.n; have := h.o0; have := h.o1; have := h.b0; have := h.b1; have := h.t0; have := h.t1
  simp only [Rf.okR, Bool.and_eq_true, Bool.or_eq_true, decide_eq_true_eq]
  exact ⟨h.r0, h.r1, h.a1, h.n, h.o0, h.o1, h.b0, h.b1, h.t0, h.t1, h.c⟩
theorem adBase_range {k at_ row base : Int} (h0 : 0 ≤ row) (h1 : row ≤ at_) (h2 : -1 ≤ base) (h3 : base ≤ at_) : -1 ≤ adBase k at_ row base ∧ adBase k at_ row base ≤ at_ := by
  unfold adBase
  split <;> omega
theorem Fine.addOp {b : List Int} {s : RSt} (h : Fine b s) (k o : Int) {e : Int} (h1 : s.at_ < e) (h2 : e ≤ (b.length : Int)) (h3 : 0 ≤ o) (h4 : o ≤ e) : Fine b (withOp o (addR k e s)) := by
  have := h.r0; have := h.r1; have := h.a1; have := h.n; have := h.o0; have := h.o1; have := h.b0; have := h.b1; have := h.t0; have := h.t1
  have hb := adBase_range (k := k) h.r0 h.r1 h.b0 h.b1
  have hl : ((s.l ++ [(⟨k, s.at_, e⟩ : S32)]).length : Int) = s.l.length + 1 := by simp
  refine ⟨h.r0, ?_, h2, ?_, h3, h4, hb.1, ?_, h.t0, ?_, .inr ?_⟩ <;> simp only [withOp, addR] <;> omega
theorem Fine.add {b : List Int} {s : RSt} (h : Fine b s) (k : Int) {e : Int} (h1 : s.at_ < e) (h2 : e ≤ (b.length : Int)) : Fine b (addR k e s) :=
  h.addOp k s.op h1 h2 h.o0 (by have := h.o1; omega)
theorem Fine.next {b : List Int} {s : RSt} (h : Fine b s) : Fine b (nextR s) := by
  have := h.r0; have := h.r1
  refine ⟨?_, ?_, h.a1, h.n, h.o0, h.o1, ?_, ?_, h.t0, h.t1, .inl rfl⟩ <;> simp only [nextR] <;> omega
theorem Fine.text {b : List Int} {s : RSt} (h : Fine b s) {t : Int} (h0 : -2 ≤ t) (h1 : t ≤ s.at_) : Fine b { s with text := t } := ⟨h.r0, h.r1, h.a1, h.n, h.o0, h.o1, h.b0, h.b1, h0, h1, h.c⟩

def EndsO (b : List Int) (s : St) (L : List S32) : Prop := ∀ k : Nat, (b.length : Int) - s.at_ < (k : Int) → ∃ t, loopO b k s = some t ∧ t.l = L
def EndsR (b : List Int) (s : RSt) (L : List S32) : Prop := ∀ k : Nat, (b.length : Int) - s.at_ < (k : Int) → ∃ t, loopR b k s = some t ∧ t.l = L
theorem EndsO.step {b : List Int} {s : St} {L : List S32} (ok : Ok b s) (h : s.at_ < (b.length : Int)) (hg : s.at_ < (stepS b s).at_) (he : EndsO b (stepS b s) L) : EndsO b s L := by
  intro k hk
  cases k with
  | zero => exact absurd hk (by omega)
  | succ k =>
    obtain ⟨t, h1, h2⟩ := he k (by omega)
    refine ⟨t, ?_, h2⟩
    simp only [loopO]
    rw [if_pos (ok_okB ok), if_pos h]
    exact h1
theorem EndsO.stop {b : List Int} {s : St} (ok : Ok b s) (h : ¬ s.at_ < (b.length : Int)) : EndsO b s s.l := by
  intro k hk
  cases k with
  | zero => have := ok.a1; omega
  | succ k =>
    refine ⟨s, ?_, rfl⟩
    simp only [loopO]
    rw [if_pos (ok_okB ok), if_neg h]
theorem EndsR.step {b : List Int} {s : RSt} {L : List S32} (ok : Fine b s) (h : s.at_ < (b.length : Int)) (hg : s.at_ < (stepR b s).at_) (he : EndsR b (stepR b s) L) : EndsR b s L := by
  intro k hk
  cases k with
  | zero => exact absurd hk (by omega)
  | succ k =>
    obtain ⟨t, h1, h2⟩ := he k (by omega)
    refine ⟨t, ?_, h2⟩
    simp only [loopR]
    rw [if_pos ok.okR, if_pos h]
    exact h1
theorem EndsR.stop {b : List Int} {s : RSt} (ok : Fine b s) (h : ¬ s.at_ < (b.length : Int)) : EndsR b s s.l := by
  intro k hk
  cases k with
  | zero => have := ok.a1; omega
  | succ k =>
    refine ⟨s, ?_, rfl⟩
    simp only [loopR]
    rw [if_pos ok.okR, if_neg h]
/-- The reference's scanner, out of the program's. -/
def toR (s : St) (o : Bool) (t : Int) : RSt := ⟨s.at_, s.row, s.op, s.base, o, t, s.l⟩
theorem add_tk {k : Int} (h1 : k ≠ 1) (h19 : k ≠ 19) (e : Int) (s : St) (o : Bool) (t : Int) : addR k e (toR s o t) = toR (tk k e s) (adOnly k o) t := by
  have hr : tkRow k e s.row = s.row := by simp [tkRow, isNew, h1, h19]
  have hb : tkBase k s.at_ s.row s.base = adBase k s.at_ s.row s.base := by
    by_cases a : k = 2 ∨ k = 3 ∨ k = 4
    · rcases a with rfl | rfl | rfl <;> rfl
    · simp only [not_or] at a
      simp [tkBase, adBase, isNew, isLoose, counts, h1, h19, a.1, a.2.1, a.2.2]
  unfold addR toR tk
  simp only [hr, hb]
theorem only_dash {k : Int} (h1 : k ≠ 1) (h19 : k ≠ 19) (h4 : k ≠ 4) (h20 : k ≠ 20) (o : Bool) : adOnly k o = tkDash k o := by
  by_cases a : k = 2 ∨ k = 3 ∨ k = 5
  · rcases a with rfl | rfl | rfl <;> cases o <;> rfl
  · simp only [not_or] at a
    simp [adOnly, tkDash, isNew, isLoose, h1, h19, h4, h20, a.1, a.2.1, a.2.2]
theorem tk_op (k e o : Int) (s : St) : tk k e { s with op := o } = { tk k e s with op := o } := rfl
/-- The program's scanner and the reference's at the same place. -/
structure Rel (b : List Int) (s : St) (o : Bool) (t : Int) : Prop where
  d : o = s.dash ∨ line b s.at_ = s.at_
  t : t = -2 ∨ s.at_ = (b.length : Int)
  new : s.at_ = s.row → s.dash = true
theorem fine_ok {b : List Int} {s : St} {o : Bool} {t : Int} (h : Fine b (toR s o t)) : Ok b s := ⟨h.r0, h.r1, h.a1, h.n, h.o0, h.o1, h.b0, h.b1⟩
def Reach (b : List Int) (r r' : RSt) : Prop := ∀ L, EndsR b r' L → EndsR b r L
theorem Reach.refl (b : List Int) (r : RSt) : Reach b r r := fun _ h => h
theorem Reach.trans {b : List Int} {r s t : RSt} (h : Reach b r s) (k : Reach b s t) : Reach b r t := fun L hl => h L (k L hl)
theorem Reach.step {b : List Int} {r r' : RSt} (ok : Fine b r) (h : r.at_ < (b.length : Int)) (e : stepR b r = r') (hg : r.at_ < r'.at_) : Reach b r r' := fun L hl => EndsR.step ok h (by rw [e]; exact hg) (by rw [e]; exact hl)
theorem stepR_space {b : List Int} {r t : RSt} (hm : ¬ markOf b r > 0) (h : spaceS b r = some t) : stepR b r = t := by
  unfold stepR
  rw [if_neg hm, h]
theorem stepR_bra {b : List Int} {r t : RSt} (hm : ¬ markOf b r > 0) (hs : spaceS b r = none) (h : bracketS b r = some t) : stepR b r = t := by
  unfold stepR
  rw [if_neg hm, hs, h]
theorem stepR_word {b : List Int} {r : RSt} (hm : ¬ markOf b r > 0) (hs : spaceS b r = none) (h : bracketS b r = none) : stepR b r = wordS b r := by
  unfold stepR
  rw [if_neg hm, hs, h]
theorem spaceS_toR (b : List Int) (s : St) (o : Bool) (t : Int) : spaceS b (toR s o t) = if 0 < brk b s.at_ then some (breakR b (toR s o t))
  else if s.at_ = s.row ∧ rd b s.at_ = 32 then some (addR 2 (spaces b s.at_) (toR s o t))
  else if Sc.blank (rd b s.at_) = true then some (addR 3 (blanks b s.at_) (toR s o t))
  else if rd b s.at_ = 35 ∧ (s.at_ = s.row ∨ last s.l = 2 ∨ last s.l = 3) then some (addR 4 (line b s.at_) (toR s o t))
  else none := rfl
theorem markOf_toR (b : List Int) (s : St) (o : Bool) (t : Int) : markOf b (toR s o t) = if s.at_ = s.row then markR b s.at_ else 0 := rfl
theorem breakR_toR (b : List Int) (s : St) (o : Bool) (t : Int) : breakR b (toR s o t) = if t ≥ -1 then textsR b (nextR (addR 1 (s.at_ + brk b s.at_) (toR s o t))) else nextR (addR 1 (s.at_ + brk b s.at_) (toR s o t)) := rfl
theorem bracketS_toR (b : List Int) (s : St) (o : Bool) (t : Int) : bracketS b (toR s o t) = if rd b s.at_ = 91 then some (withOp (s.op + 1) (addR 8 (s.at_ + 1) (toR s o t)))
  else if rd b s.at_ = 123 then some (withOp (s.op + 1) (addR 9 (s.at_ + 1) (toR s o t)))
  else if rd b s.at_ = 93 then some (withOp (mx (s.op - 1) 0) (addR 10 (s.at_ + 1) (toR s o t)))
  else if rd b s.at_ = 125 then some (withOp (mx (s.op - 1) 0) (addR 11 (s.at_ + 1) (toR s o t)))
  else if rd b s.at_ = 44 ∧ s.op > 0 then some (addR 7 (s.at_ + 1) (toR s o t))
  else none := rfl
theorem wordS_toR (b : List Int) (s : St) (o : Bool) (t : Int) : wordS b (toR s o t) =
  if rd b s.at_ = 45 ∧ s.op = 0 ∧ o = true ∧ spc b (s.at_ + 1) = true then addR 5 (s.at_ + 1) (toR s o t)
  else if colon b s.op s.at_ = true then addR 6 (s.at_ + 1) (toR s o t)
  else if rd b s.at_ = 38 ∧ namesR b (s.at_ + 1) false > s.at_ + 1 then addR 12 (namesR b (s.at_ + 1) false) (toR s o t)
  else if rd b s.at_ = 42 ∧ namesR b (s.at_ + 1) false > s.at_ + 1 then addR 13 (namesR b (s.at_ + 1) false) (toR s o t)
  else if rd b s.at_ = 33 then addR 14 (namesR b (s.at_ + 1) true) (toR s o t)
  else if rd b s.at_ = 39 then addR 16 (singleR b (s.at_ + 1) (line b s.at_)) (toR s o t)
  else if rd b s.at_ = 34 then addR 17 (mn (doubleR b (s.at_ + 1) (line b s.at_)) (line b s.at_)) (toR s o t)
  else if 0 < headR b s.op s.at_ then addR 18 (s.at_ + headR b s.op s.at_) (toR s o (if s.base < 0 then s.at_ - s.row - 1 else s.base))
  else if (nx (b.drop s.at_.toNat)).1 < 0 then addR 22 (s.at_ + 1) (toR s o t)
  else addR 15 (plainR b s.op s.at_) (toR s o t) := rfl
def begS (b : List Int) (s : St) : Option St := if s.at_ = s.row then begunS b s else none
theorem stepS_beg {b : List Int} {s t : St} (h : begS b s = some t) : stepS b s = t := by
  unfold stepS
  unfold begS at h
  rw [h]
theorem stepS_loose {b : List Int} {s t : St} (h : begS b s = none) (h2 : looseS b s = some t) : stepS b s = t := by
  unfold stepS
  unfold begS at h
  rw [h, h2]
theorem stepS_sign {b : List Int} {s t : St} (h : begS b s = none) (h2 : looseS b s = none) (h3 : signS b s = some t) : stepS b s = t := by
  unfold stepS
  unfold begS at h
  rw [h, h2, h3]
theorem stepS_text {b : List Int} {s : St} (h : begS b s = none) (h2 : looseS b s = none) (h3 : signS b s = none) : stepS b s = textS b s := by
  unfold stepS
  unfold begS at h
  rw [h, h2, h3]
theorem markR_cases (b : List Int) (i : Int) (h0 : 0 ≤ i) : markR b i = 0 ∨ ((markR b i = 20 ∨ markR b i = 21) ∧ i + 3 ≤ (b.length : Int) ∧ (rd b i = 45 ∨ rd b i = 46)) := by
  unfold markR
  split
  · exact .inl rfl
  · rename_i h
    have hl : i + 3 ≤ (b.length : Int) := by
      rcases Int.lt_or_le (b.length : Int) (i + 3) with h2 | h2
      · exact absurd (.inl h2) h
      · exact h2
    rw [ba_in h0 (by omega)]
    split
    · rename_i h2; exact .inr ⟨.inl rfl, hl, .inl h2⟩
    · split
      · rename_i h2; exact .inr ⟨.inr rfl, hl, .inr h2⟩
      · exact .inl rfl
theorem brk_none {b : List Int} {i : Int} (h13 : rd b i ≠ 13) (h10 : rd b i ≠ 10) : brk b i = 0 := by simp [brk, th, h13, h10]
theorem brk_byte {b : List Int} {i : Int} (h : brk b i ≠ 0) : rd b i = 13 ∨ rd b i = 10 := by
  by_cases a : rd b i = 13
  · exact .inl a
  · by_cases c : rd b i = 10
    · exact .inr c
    · exact absurd (brk_none a c) h
theorem blanks_more {b : List Int} {i : Int} (h : i < (b.length : Int)) : i < blanks b i ↔ Sc.blank (rd b i) = true := by
  constructor
  · intro h2
    exact upto_in (p := fun j => Sc.blank (rd b j)) (Int.le_refl i) h2
  · intro h2
    have e : blanks b i = blanks b (i + 1) := upto_go h h2
    have := upto_le (n := (b.length : Int)) (p := fun j => Sc.blank (rd b j)) (i := i + 1) (by omega)
    rw [e]
    show i < upto _ _ _
    omega
theorem spaces_more {b : List Int} {i : Int} (h : i < (b.length : Int)) : i < spaces b i ↔ rd b i = 32 := by
  constructor
  · intro h2
    have := upto_in (p := fun j => rd b j == 32) (Int.le_refl i) h2
    simpa using this
  · intro h2
    have e : spaces b i = spaces b (i + 1) := upto_go h (by simpa using h2)
    have := upto_le (n := (b.length : Int)) (p := fun j => rd b j == 32) (i := i + 1) (by omega)
    rw [e]
    show i < upto _ _ _
    omega
theorem line_more' {b : List Int} {i : Int} (h : i < (b.length : Int)) (hb : brk b i = 0) : i < line b i := by
  have e : line b i = line b (i + 1) := upto_go h (by simpa using hb)
  have := line_in (b := b) (i := i + 1) (by omega)
  omega
theorem line_line {b : List Int} {i : Int} (h : i ≤ (b.length : Int)) : line b (line b i) = line b i := by
  have hl := line_in h
  rw [line_is hl.2]
  intro ⟨h1, h2⟩
  have := upto_at (n := (b.length : Int)) (p := fun j => brk b j == 0) (i := i) h1
  have h3 : (brk b (line b i) == 0) = false := this
  simp [h2] at h3
theorem sgl_range (b : List Int) (e : Int) : ∀ (k : Nat) (j m : Int), m < j → m < e → m < sgl b e k j ∧ sgl b e k j ≤ e
  | 0, j, m, h, h2 => ⟨h2, Int.le_refl _⟩
  | k + 1, j, m, h, h2 => by
    simp only [sgl]
    split
    · split
      · split
        · exact sgl_range b e k (j + 2) m (by omega) h2
        · omega
      · exact sgl_range b e k (j + 1) m (by omega) h2
    · exact ⟨h2, Int.le_refl _⟩
theorem dbl_range (b : List Int) (e : Int) : ∀ (k : Nat) (j m : Int), m < j → m < e → m < dbl b e k j ∧ dbl b e k j ≤ e
  | 0, j, m, h, h2 => ⟨h2, Int.le_refl _⟩
  | k + 1, j, m, h, h2 => by
    simp only [dbl]
    split
    · split
      · omega
      · split
        · exact dbl_range b e k (j + 2) m (by omega) h2
        · exact dbl_range b e k (j + 1) m (by omega) h2
    · exact ⟨h2, Int.le_refl _⟩
theorem plR_range (b : List Int) (hB : Byt b) (op : Int) : ∀ (k : Nat) (j : Int), 0 ≤ j → j ≤ (b.length : Int) → j ≤ plR b op k j ∧ plR b op k j ≤ (b.length : Int)
  | 0, j, h0, h => ⟨Int.le_refl _, h⟩
  | k + 1, j, h0, h => by
    simp only [plR]
    split
    · rename_i hj
      split
      · omega
      · have hf := nx_fine (b.drop j.toNat) (hB.drop _) (by rw [List.length_drop]; omega)
        rw [List.length_drop] at hf
        have := plR_range b hB op k (j + (nx (b.drop j.toNat)).2) (by omega) (by omega)
        omega
    · omega
theorem trimR_range (b : List Int) (m : Int) : ∀ (k : Nat) (j : Int), m ≤ j → m ≤ trimR b m k j ∧ trimR b m k j ≤ j
  | 0, j, h => ⟨h, Int.le_refl _⟩
  | k + 1, j, h => by
    simp only [trimR]
    split
    · rename_i hj
      have := trimR_range b m k (j - 1) (by omega)
      omega
    · omega
theorem plainR_range (b : List Int) (hB : Byt b) (op i : Int) (h0 : 0 ≤ i) (h : i < (b.length : Int)) : i < plainR b op i ∧ plainR b op i ≤ (b.length : Int) := by
  have hf := nx_fine (b.drop i.toNat) (hB.drop _) (by rw [List.length_drop]; omega)
  rw [List.length_drop] at hf
  unfold plainR
  generalize hm : ((b.length : Int) - (i + (nx (b.drop i.toNat)).2)).toNat = m
  have h1 := plR_range b hB op m (i + (nx (b.drop i.toNat)).2) (by omega) (by omega)
  have h2 := trimR_range b (i + 1) ((plR b op m (i + (nx (b.drop i.toNat)).2)) - (i + 1)).toNat (plR b op m (i + (nx (b.drop i.toNat)).2)) (by omega)
  omega
/-- The rows of a block text. -/
theorem rows_rel (b : List Int) (hB : Byt b) (base : Int) : ∀ (k m : Nat) (s : St), (b.length : Int) - s.at_ ≤ (k : Int) → (b.length : Int) - s.at_ ≤ (m : Int) → Fine b (toR s true (-2)) → s.at_ = s.row → s.dash = true →
    rowsR b base m (toR s true (-2)) = toR (textRows b base k s) true (-2) ∧ Fine b (toR (textRows b base k s) true (-2)) ∧ (textRows b base k s).dash = true ∧ s.at_ ≤ (textRows b base k s).at_ := by
  intro k
  induction k with
  | zero =>
    intro m s h1 h2 hf hr hd
    have hn : ¬ s.at_ < (b.length : Int) := by omega
    refine ⟨?_, hf, hd, Int.le_refl _⟩
    cases m with
    | zero => rfl
    | succ m => simp only [rowsR, textRows]; exact if_neg (fun h => hn h.1)
  | succ k ih =>
    intro m s h1 h2 hf hr hd
    by_cases hn : s.at_ < (b.length : Int) ∧ markR b s.at_ = 0
    · obtain ⟨m, rfl⟩ : ∃ m', m = m' + 1 := ⟨m - 1, by omega⟩
      have h00 : 0 ≤ s.at_ := by have := hf.r0; have := hf.r1; simp only [toR] at *; omega
      have hmk : Sc.mark b s.at_ = 0 := by rw [mark_eq b hB _ h00]; exact hn.2
      have e1 : bl2 b (toR s true (-2)) = blanks b s.at_ := bl2_eq (b := b) (s := toR s true (-2)) hf.a1
      have e2 : sp2 b (toR s true (-2)) = spaces b s.at_ := sp2_eq (b := b) (s := toR s true (-2)) hf.a1
      have e3 := blanks_in (b := b) (i := s.at_) hf.a1
      have eT : textRows b base (k + 1) s = (if blanks b s.at_ ≠ line b s.at_ ∧ spaces b s.at_ - s.at_ ≤ base then s else textRows b base k (tk 19 (line b s.at_ + brk b (line b s.at_)) s)) := by
        simp only [textRows]
        rw [if_pos ⟨hn.1, hmk⟩]
      have eR : rowsR b base (m + 1) (toR s true (-2)) = (if blanks b s.at_ < line b s.at_ ∧ spaces b s.at_ - s.at_ ≤ base then toR s true (-2) else rowsR b base m (nextR (addR 19 (line b s.at_ + brk b (line b s.at_)) (toR s true (-2))))) := by
        simp only [rowsR]
        rw [e1, e2]
        show (if s.at_ < (b.length : Int) ∧ markR b s.at_ = 0 then _ else _) = _
        rw [if_pos hn]
        rfl
      rw [eT, eR]
      by_cases c : blanks b s.at_ ≠ line b s.at_ ∧ spaces b s.at_ - s.at_ ≤ base
      · rw [if_pos c, if_pos ⟨by omega, c.2⟩]
        exact ⟨rfl, hf, hd, Int.le_refl _⟩
      · rw [if_neg c, if_neg (fun h => c ⟨by omega, h.2⟩)]
        have hl := line_more hn.1
        have key := ih m (tk 19 (line b s.at_ + brk b (line b s.at_)) s) (by show _ - (line b s.at_ + _) ≤ _; omega) (by show _ - (line b s.at_ + _) ≤ _; omega) (hf.add 19 hl.1 hl.2).next rfl rfl
        refine ⟨key.1, key.2.1, key.2.2.1, Int.le_trans (Int.le_of_lt hl.1) key.2.2.2⟩
    · have hn2 : ¬ (s.at_ < (b.length : Int) ∧ Sc.mark b s.at_ = 0) := by
        intro h
        have h00 : 0 ≤ s.at_ := by have := hf.r0; have := hf.r1; simp only [toR] at *; omega
        rw [mark_eq b hB _ h00] at h
        exact hn h
      have e : textRows b base (k + 1) s = s := by simp only [textRows]; rw [if_neg hn2]
      rw [e]
      refine ⟨?_, hf, hd, Int.le_refl _⟩
      cases m with
      | zero => rfl
      | succ m => simp only [rowsR]; exact if_neg hn
end Go.Proofs.Ythoogadfhopkfaa.Same
/- The program's scanner and the reference's answer the same tokens, of any bytes. No program in it. -/
namespace Go.Proofs.Ythoogadfhopkfaa.Same
open Go.RowKit Go.Proofs.Ythoogadfhopkfaa.Q Go.Proofs.YthoogadfhopkfaaW.PrintWords Go.Proofs.YthoogadfhopkfaaW.PrintLast Go.Proofs.YthoogadfhopkfaaW.PrintMore Go.Proofs.Ythoogadfhopkfaa.Sc Go.Proofs.Ythoogadfhopkfaa.Rf Go.Proofs.Ythoogadfhopkfaa.Pure
set_option linter.unusedVariables false
set_option linter.unusedSimpArgs false
theorem mark_none {b : List Int} {r : RSt} (h : r.at_ ≠ r.row) : ¬ markOf b r > 0 := by
  unfold markOf
  rw [if_neg h]
  omega
/-- Behind a head, up to the end of its rows. -/
theorem texts_rel (b : List Int) (hB : Byt b) (base : Int) (s1 : St) (hb : -1 ≤ base) (hf : Fine b (toR s1 s1.dash base)) (hr : s1.row < s1.at_)
    (hd : blanks b s1.at_ = line b (blanks b s1.at_) ∨ (blanks b s1.at_ > s1.at_ ∧ th b (blanks b s1.at_) 35 = true)) :
    ∃ o t, Rel b (texts b base s1) o t ∧ Fine b (toR (texts b base s1) o t) ∧ s1.at_ ≤ (texts b base s1).at_ ∧ Reach b (toR s1 s1.dash base) (toR (texts b base s1) o t) := by
  have ha1 : s1.at_ ≤ (b.length : Int) := hf.a1
  have h00 : 0 ≤ s1.at_ := by have := hf.r0; simp only [toR] at this; omega
  have hbl := blanks_in (b := b) (i := s1.at_) ha1
  have hln := line_in (b := b) (i := s1.at_) ha1
  have hln2 := line_in (b := b) (i := blanks b s1.at_) (by omega)
  -- blanks
  have A : Reach b (toR s1 s1.dash base) (toR (texts1 b s1) s1.dash base) ∧ Fine b (toR (texts1 b s1) s1.dash base) ∧ (texts1 b s1).at_ = blanks b s1.at_ ∧ (texts1 b s1).dash = s1.dash ∧ (texts1 b s1).row = s1.row ∧ (blanks b s1.at_ > s1.at_ → last (texts1 b s1).l = 3) := by
    unfold texts1
    by_cases c : s1.at_ < blanks b s1.at_
    · rw [if_pos c]
      have hlt : s1.at_ < (b.length : Int) := by omega
      have hbk := (blanks_more hlt).mp c
      have hbr : brk b s1.at_ = 0 := by
        refine brk_none ?_ ?_ <;> (intro e; rw [e] at hbk; cases hbk)
      have e := add_tk (k := 3) (by decide) (by decide) (blanks b s1.at_) s1 s1.dash base
      have hf2 := hf.add 3 (e := blanks b s1.at_) c (by omega)
      rw [e] at hf2
      refine ⟨Reach.step hf hlt ?_ c, hf2, rfl, rfl, rfl, fun _ => last_add _ _⟩
      refine stepR_space (mark_none (by show s1.at_ ≠ s1.row; omega)) ?_
      rw [spaceS_toR, if_neg (by omega), if_neg (by omega), if_pos hbk, e]
      rfl
    · rw [if_neg c]
      exact ⟨Reach.refl _ _, hf, by omega, rfl, rfl, fun h => absurd h c⟩
  obtain ⟨A1, A2, A3, A4, A5, A6⟩ := A
  -- a comment
  have C : ∃ o, Reach b (toR (texts1 b s1) s1.dash base) (toR (texts2 b (texts1 b s1)) o base) ∧ Fine b (toR (texts2 b (texts1 b s1)) o base) ∧ (texts2 b (texts1 b s1)).at_ = line b (blanks b s1.at_) ∧ (texts2 b (texts1 b s1)).row = s1.row := by
    generalize texts1 b s1 = s2 at *
    unfold texts2
    rw [A3]
    by_cases c : blanks b s1.at_ < line b (blanks b s1.at_)
    · rw [if_pos c]
      have h35 := hd.resolve_left (by omega)
      have ht := th_true h35.2
      have hlt : s2.at_ < (b.length : Int) := by rw [A3]; exact ht.1
      have e35 : rd b s2.at_ = 35 := by rw [A3]; simpa using ht.2
      have hbr : brk b s2.at_ = 0 := brk_none (by omega) (by omega)
      have e := add_tk (k := 4) (by decide) (by decide) (line b (blanks b s1.at_)) s2 s1.dash base
      have hf2 := A2.add 4 (e := line b (blanks b s1.at_)) (by show s2.at_ < _; rw [A3]; exact c) (by omega)
      rw [e] at hf2
      refine ⟨_, Reach.step A2 hlt ?_ (by show s2.at_ < _; rw [A3]; exact c), hf2, rfl, A5⟩
      refine stepR_space (mark_none (by show s2.at_ ≠ s2.row; omega)) ?_
      have hl3 := A6 h35.1
      rw [spaceS_toR, if_neg (by omega), if_neg (by omega), if_neg (by rw [e35]; decide), if_pos ⟨e35, .inr (.inr hl3)⟩, A3, e]
    · rw [if_neg c]
      exact ⟨_, Reach.refl _ _, A2, by omega, A5⟩
  obtain ⟨o3, C1, C2, C3, C4⟩ := C
  have hll : line b (line b (blanks b s1.at_)) = line b (blanks b s1.at_) := line_line (by omega)
  unfold texts
  generalize texts2 b (texts1 b s1) = s3 at *
  unfold texts3
  by_cases c : brk b s3.at_ = 0
  · rw [if_pos c]
    have he : s3.at_ = (b.length : Int) := by
      have h2 := (line_is (b := b) (x := s3.at_) C2.a1).mp (by rw [C3]; exact hll)
      have := C2.a1
      simp only [toR] at this
      rcases Int.lt_or_le s3.at_ (b.length : Int) with h3 | h3
      · exact absurd ⟨h3, c⟩ h2
      · omega
    exact ⟨o3, base, ⟨.inr (by rw [C3]; exact hll), .inr he, fun h => by omega⟩, C2, by omega, A1.trans C1⟩
  · rw [if_neg c]
    have hbr := brk_range b s3.at_
    have hbp : 0 < brk b s3.at_ := by omega
    have hle := brk_le hbp
    have hlt : s3.at_ < (b.length : Int) := by omega
    have hf4 := ((C2.add 1 (e := s3.at_ + brk b s3.at_) (by show s3.at_ < _; omega) hle).next.text (t := -2) (by decide) (by show (-2 : Int) ≤ s3.at_ + brk b s3.at_; omega))
    have key := rows_rel b hB base ((b.length : Int) - s3.at_).toNat ((b.length : Int) - (s3.at_ + brk b s3.at_)).toNat (tk 1 (s3.at_ + brk b s3.at_) s3) (by show _ - (s3.at_ + _) ≤ _; omega) (by show _ - (s3.at_ + _) ≤ _; omega) hf4 rfl rfl
    obtain ⟨k1, k2, k3, k4⟩ := key
    have k4' : s3.at_ + brk b s3.at_ ≤ _ := k4
    refine ⟨true, -2, ⟨.inl k3.symm, .inl rfl, fun _ => k3⟩, k2, by omega, (A1.trans C1).trans (Reach.step C2 hlt ?_ (by show s3.at_ < _; exact Int.lt_of_lt_of_le (by omega) k4'))⟩
    refine stepR_space (mark_none (by show s3.at_ ≠ s3.row; omega)) ?_
    rw [spaceS_toR, if_pos hbp, breakR_toR, if_pos hb]
    exact congrArg some k1
theorem bra_eq (b : List Int) (s : St) (o : Bool) (t : Int) : bracketS b (toR s o t) = if (bra b s.op s.at_).1 ≠ 0 then some (withOp (bra b s.op s.at_).2 (addR (bra b s.op s.at_).1 (s.at_ + 1) (toR s o t))) else none := by
  rw [bracketS_toR]
  unfold bra
  by_cases h1 : rd b s.at_ = 91
  · rw [if_pos h1, if_pos h1]; rfl
  · rw [if_neg h1, if_neg h1]
    by_cases h2 : rd b s.at_ = 123
    · rw [if_pos h2, if_pos h2]; rfl
    · rw [if_neg h2, if_neg h2]
      by_cases h3 : rd b s.at_ = 93
      · rw [if_pos h3, if_pos h3]; rfl
      · rw [if_neg h3, if_neg h3]
        by_cases h4 : rd b s.at_ = 125
        · rw [if_pos h4, if_pos h4]; rfl
        · rw [if_neg h4, if_neg h4]
          by_cases h5 : rd b s.at_ = 44
          · by_cases h6 : s.op > 0
            · rw [if_pos ⟨h5, h6⟩, if_pos h5, if_pos h6]; rfl
            · rw [if_neg (fun h => h6 h.2), if_pos h5, if_neg h6]; rfl
          · rw [if_neg (fun h => h5 h.1), if_neg h5]; rfl
theorem bra_kind (b : List Int) (op i : Int) (h : 0 ≤ op) (hi : op ≤ i) : ((bra b op i).1 = 0 ∨ (7 ≤ (bra b op i).1 ∧ (bra b op i).1 ≤ 11)) ∧ 0 ≤ (bra b op i).2 ∧ (bra b op i).2 ≤ i + 1 := by
  have hx : 0 ≤ mx (op - 1) 0 ∧ mx (op - 1) 0 ≤ i + 1 := by
    unfold mx
    split <;> omega
  unfold bra
  by_cases h1 : rd b i = 91
  · rw [if_pos h1]; exact ⟨.inr ⟨by show (7 : Int) ≤ 8; omega, by show (8 : Int) ≤ 11; omega⟩, by show 0 ≤ op + 1; omega, by show op + 1 ≤ i + 1; omega⟩
  · rw [if_neg h1]
    by_cases h2 : rd b i = 123
    · rw [if_pos h2]; exact ⟨.inr ⟨by show (7 : Int) ≤ 9; omega, by show (9 : Int) ≤ 11; omega⟩, by show 0 ≤ op + 1; omega, by show op + 1 ≤ i + 1; omega⟩
    · rw [if_neg h2]
      by_cases h3 : rd b i = 93
      · rw [if_pos h3]; exact ⟨.inr ⟨by show (7 : Int) ≤ 10; omega, by show (10 : Int) ≤ 11; omega⟩, hx⟩
      · rw [if_neg h3]
        by_cases h4 : rd b i = 125
        · rw [if_pos h4]; exact ⟨.inr ⟨by show (7 : Int) ≤ 11; omega, by show (11 : Int) ≤ 11; omega⟩, hx⟩
        · rw [if_neg h4]
          by_cases h5 : rd b i = 44
          · rw [if_pos h5]
            by_cases h6 : op > 0
            · rw [if_pos h6]; exact ⟨.inr ⟨by show (7 : Int) ≤ 7; omega, by show (7 : Int) ≤ 11; omega⟩, h, by show op ≤ i + 1; omega⟩
            · rw [if_neg h6]; exact ⟨.inl rfl, h, by show op ≤ i + 1; omega⟩
          · rw [if_neg h5]; exact ⟨.inl rfl, h, by show op ≤ i + 1; omega⟩
theorem tag_eq (b : List Int) (i : Int) : namesR b i true = tag b i := rfl
theorem names_eq (b : List Int) (i : Int) : namesR b i false = names b i := by
  unfold namesR names
  congr 1
  funext j
  simp
theorem names_in {b : List Int} {i : Int} (h : i ≤ (b.length : Int)) : i ≤ names b i ∧ names b i ≤ (b.length : Int) := upto_le (p := fun j => name (rd b j)) h
theorem tag_in {b : List Int} {i : Int} (h : i ≤ (b.length : Int)) : i ≤ tag b i ∧ tag b i ≤ (b.length : Int) := upto_le (p := fun j => name (rd b j) || rd b j == 33) h
/-- One token, of no break, no comment, no mark. -/
theorem one_rel {b : List Int} {s : St} {r : RSt} {k e : Int} {o : Bool} (op2 : Int) (hs : stepS b s = tk k e { s with op := op2 }) (hr : stepR b (toR s o (-2)) = withOp op2 (addR k e (toR s o (-2)))) (ho : o = s.dash) (hf : Fine b (toR s o (-2)))
    (hk1 : k ≠ 1) (hk19 : k ≠ 19) (hk4 : k ≠ 4) (hk20 : k ≠ 20) (hlt : s.at_ < (b.length : Int)) (h1 : s.at_ < e) (h2 : e ≤ (b.length : Int)) (h3 : 0 ≤ op2) (h4 : op2 ≤ e) :
    ∃ o' t', Rel b (stepS b s) o' t' ∧ Fine b (toR (stepS b s) o' t') ∧ s.at_ < (stepS b s).at_ ∧ Reach b (toR s o (-2)) (toR (stepS b s) o' t') := by
  have e1 : withOp op2 (addR k e (toR s o (-2))) = toR (tk k e { s with op := op2 }) (adOnly k o) (-2) := by rw [add_tk hk1 hk19]; rfl
  have hf2 := hf.addOp k op2 (e := e) h1 h2 h3 h4
  rw [e1] at hf2
  rw [hs]
  refine ⟨adOnly k o, -2, ⟨.inl (by rw [only_dash hk1 hk19 hk4 hk20, ho]; rfl), .inl rfl, fun h => ?_⟩, hf2, h1, Reach.step hf hlt (by rw [hr, e1]) h1⟩
  exfalso
  have hrow : (tk k e { s with op := op2 }).row = s.row := by
    show tkRow k e s.row = s.row
    simp [tkRow, isNew, hk1, hk19]
  rw [hrow] at h
  have h5 : e = s.row := h
  have := hf.r1
  simp only [toR] at this
  omega
theorem step_rel (b : List Int) (hB : Byt b) (s : St) (o : Bool) (t : Int) (hrel : Rel b s o t) (hf : Fine b (toR s o t)) (hlt : s.at_ < (b.length : Int)) :
    ∃ o' t', Rel b (stepS b s) o' t' ∧ Fine b (toR (stepS b s) o' t') ∧ s.at_ < (stepS b s).at_ ∧ Reach b (toR s o t) (toR (stepS b s) o' t') := by
  obtain rfl : t = -2 := hrel.t.resolve_right (by omega)
  have hr0 : 0 ≤ s.row := hf.r0
  have hr1 : s.row ≤ s.at_ := hf.r1
  have h00 : 0 ≤ s.at_ := by omega
  have ho0 : 0 ≤ s.op := hf.o0
  have ho1 : s.op ≤ s.at_ := hf.o1
  have hmk := mark_eq b hB s.at_ h00
  by_cases hbr : 0 < brk b s.at_
  · -- a break
    have hbb := brk_byte (b := b) (i := s.at_) (by omega)
    have hm0 : markR b s.at_ = 0 := by rcases markR_cases b s.at_ h00 with h | ⟨_, _, h⟩ <;> omega
    have hle := brk_le hbr
    have hb0 : begS b s = none := by
      unfold begS begunS
      split
      · rw [hmk, if_neg (by omega), if_neg (fun h => by have := (spaces_more hlt).mp h; omega)]
      · rfl
    have hs : stepS b s = tk 1 (s.at_ + brk b s.at_) s := stepS_loose hb0 (by unfold looseS; rw [if_pos hbr])
    have hf2 := (hf.add 1 (e := s.at_ + brk b s.at_) (by show s.at_ < _; omega) hle).next
    rw [hs]
    refine ⟨true, -2, ⟨.inl rfl, .inl rfl, fun _ => rfl⟩, hf2, by show s.at_ < s.at_ + _; omega, Reach.step hf hlt ?_ (by show s.at_ < s.at_ + _; omega)⟩
    refine stepR_space (by rw [markOf_toR]; split <;> omega) ?_
    rw [spaceS_toR, if_pos hbr, breakR_toR, if_neg (by decide)]
    rfl
  · have hb0 : brk b s.at_ = 0 := by have := brk_range b s.at_; omega
    have hlm := line_more' hlt hb0
    have hln := line_in (b := b) (i := s.at_) (Int.le_of_lt hlt)
    have hod : o = s.dash := hrel.d.resolve_right (by omega)
    by_cases hm : s.at_ = s.row ∧ markR b s.at_ ≠ 0
    · -- a mark
      have hmc := (markR_cases b s.at_ h00).resolve_left hm.2
      have hb1 : begS b s = some (tk (markR b s.at_) (s.at_ + 3) { s with op := 0 }) := by
        unfold begS begunS
        rw [if_pos hm.1, hmk, if_pos hm.2]
      have hs := stepS_beg hb1
      have hd := hrel.new hm.1
      have hk1 : markR b s.at_ ≠ 1 := by omega
      have hk19 : markR b s.at_ ≠ 19 := by omega
      have e1 : withOp 0 (addR (markR b s.at_) (s.at_ + 3) (toR s o (-2))) = toR (tk (markR b s.at_) (s.at_ + 3) { s with op := 0 }) (adOnly (markR b s.at_) o) (-2) := by rw [add_tk hk1 hk19]; rfl
      have hf2 := hf.addOp (markR b s.at_) 0 (e := s.at_ + 3) (by show s.at_ < _; omega) hmc.2.1 (by omega) (by omega)
      rw [e1] at hf2
      rw [hs]
      refine ⟨_, -2, ⟨.inl ?_, .inl rfl, fun h => ?_⟩, hf2, by show s.at_ < s.at_ + 3; omega, Reach.step hf hlt ?_ (by show s.at_ < s.at_ + 3; omega)⟩
      · rw [hod]
        show adOnly (markR b s.at_) s.dash = tkDash (markR b s.at_) s.dash
        rw [hd]
        rcases hmc.1 with h | h <;> rw [h] <;> rfl
      · exfalso
        have hrow : (tk (markR b s.at_) (s.at_ + 3) { s with op := 0 }).row = s.row := by
          show tkRow _ _ s.row = s.row
          simp [tkRow, isNew, hk1, hk19]
        rw [hrow] at h
        have h5 : s.at_ + 3 = s.row := h
        omega
      · rw [← e1]
        have hmo : markOf b (toR s o (-2)) = markR b s.at_ := by
          rw [markOf_toR, if_pos hm.1]
        unfold stepR
        rw [if_pos (by rw [hmo]; omega), hmo]
        rfl
    · -- no mark
      have hmo : ¬ markOf b (toR s o (-2)) > 0 := by
        rw [markOf_toR]
        split
        · rename_i h
          have : markR b s.at_ = 0 := Decidable.not_not.mp fun h2 => hm ⟨h, h2⟩
          omega
        · omega
      by_cases h32 : s.at_ = s.row ∧ rd b s.at_ = 32
      · have hsp := (spaces_more hlt).mpr h32.2
        have hsl := upto_le (n := (b.length : Int)) (p := fun j => rd b j == 32) (i := s.at_) (by omega)
        refine one_rel (r := toR s o (-2)) s.op (k := 2) (e := spaces b s.at_) (stepS_beg ?_) (stepR_space hmo ?_) hod hf (by decide) (by decide) (by decide) (by decide) hlt hsp hsl.2 ho0 (by omega)
        · unfold begS begunS
          have : markR b s.at_ = 0 := Decidable.not_not.mp fun h2 => hm ⟨h32.1, h2⟩
          rw [if_pos h32.1, hmk, if_neg (by omega), if_pos hsp]
        · rw [spaceS_toR, if_neg hbr, if_pos h32]
          rfl
      · have hbn : begS b s = none := by
          unfold begS begunS
          split
          · rename_i h
            have : markR b s.at_ = 0 := Decidable.not_not.mp fun h2 => hm ⟨h, h2⟩
            rw [hmk, if_neg (by omega), if_neg (fun h2 => h32 ⟨h, (spaces_more hlt).mp h2⟩)]
          · rfl
        by_cases hbk : Sc.blank (rd b s.at_) = true
        · have hsp := (blanks_more hlt).mpr hbk
          have hsl := blanks_in (b := b) (i := s.at_) (by omega)
          refine one_rel (r := toR s o (-2)) s.op (k := 3) (e := blanks b s.at_) (stepS_loose hbn ?_) (stepR_space hmo ?_) hod hf (by decide) (by decide) (by decide) (by decide) hlt hsp (by omega) ho0 (by omega)
          · unfold looseS
            rw [if_neg hbr, if_pos hsp]
          · rw [spaceS_toR, if_neg hbr, if_neg h32, if_pos hbk]
            rfl
        · have hnb : ¬ s.at_ < blanks b s.at_ := fun h => hbk ((blanks_more hlt).mp h)
          by_cases h35 : rd b s.at_ = 35 ∧ (s.at_ = s.row ∨ last s.l = 2 ∨ last s.l = 3)
          · -- a comment
            have hs : stepS b s = tk 4 (line b s.at_) s := stepS_loose hbn (by
              unfold looseS
              rw [if_neg hbr, if_neg hnb, if_pos ⟨by simp [th, hlt, h35.1], h35.2⟩])
            have hf2 := hf.add 4 (e := line b s.at_) hlm hln.2
            have e1 := add_tk (k := 4) (by decide) (by decide) (line b s.at_) s o (-2)
            rw [e1] at hf2
            rw [hs]
            refine ⟨_, -2, ⟨.inr (line_line (by omega)), .inl rfl, fun h => ?_⟩, hf2, hlm, Reach.step hf hlt ?_ hlm⟩
            · exfalso
              have h5 : line b s.at_ = s.row := h
              omega
            · rw [← e1]
              refine stepR_space hmo ?_
              rw [spaceS_toR, if_neg hbr, if_neg h32, if_neg hbk, if_pos h35]
          · have hln0 : looseS b s = none := by
              unfold looseS
              rw [if_neg hbr, if_neg hnb, if_neg (fun h => h35 ⟨by simpa using (th_true h.1).2, h.2⟩)]
            have hsn : spaceS b (toR s o (-2)) = none := by
              rw [spaceS_toR, if_neg hbr, if_neg h32, if_neg hbk, if_neg h35]
            have hbq := bra_eq b s o (-2)
            have hbk2 := bra_kind b s.op s.at_ ho0 ho1
            by_cases hbra : (bra b s.op s.at_).1 ≠ 0
            · rw [if_pos hbra] at hbq
              exact one_rel (r := toR s o (-2)) (bra b s.op s.at_).2 (k := (bra b s.op s.at_).1) (e := s.at_ + 1) (stepS_sign hbn hln0 (by unfold signS; rw [if_pos hbra])) (stepR_bra hmo hsn hbq) hod hf (by omega) (by omega) (by omega) (by omega) hlt (by omega) (by omega) hbk2.2.1 hbk2.2.2
            · rw [if_neg hbra] at hbq
              have hw := stepR_word hmo hsn hbq
              by_cases hds : dashS b s = true
              · refine one_rel (r := toR s o (-2)) s.op (k := 5) (e := s.at_ + 1) (stepS_sign hbn hln0 ?_) (hw.trans ?_) hod hf (by decide) (by decide) (by decide) (by decide) hlt (by omega) (by omega) ho0 (by omega)
                · unfold signS
                  rw [if_neg hbra, if_pos hds]
                · simp only [dashS, Bool.and_eq_true, beq_iff_eq] at hds
                  have := th_true hds.1
                  rw [wordS_toR, if_pos ⟨by simpa using this.2, hds.2.2.1, by rw [hod]; exact hds.2.2.2, hds.2.1⟩]
                  rfl
              · have hdr : ¬ (rd b s.at_ = 45 ∧ s.op = 0 ∧ o = true ∧ spc b (s.at_ + 1) = true) := by
                  rintro ⟨a1, a2, a3, a4⟩
                  refine hds ?_
                  simp only [dashS, Bool.and_eq_true, beq_iff_eq]
                  exact ⟨by simp [th, hlt, a1], a4, a2, by rw [← hod]; exact a3⟩
                by_cases hcl : colon b s.op s.at_ = true
                · refine one_rel (r := toR s o (-2)) s.op (k := 6) (e := s.at_ + 1) (stepS_sign hbn hln0 ?_) (hw.trans ?_) hod hf (by decide) (by decide) (by decide) (by decide) hlt (by omega) (by omega) ho0 (by omega)
                  · unfold signS
                    rw [if_neg hbra, if_neg hds, if_pos hcl]
                  · rw [wordS_toR, if_neg hdr, if_pos hcl]
                    rfl
                · have hn1 := names_in (b := b) (i := s.at_ + 1) (by omega)
                  have ht1 := tag_in (b := b) (i := s.at_ + 1) (by omega)
                  have hW : wordS b (toR s o (-2)) = if rd b s.at_ = 38 ∧ names b (s.at_ + 1) > s.at_ + 1 then addR 12 (names b (s.at_ + 1)) (toR s o (-2))
                      else if rd b s.at_ = 42 ∧ names b (s.at_ + 1) > s.at_ + 1 then addR 13 (names b (s.at_ + 1)) (toR s o (-2))
                      else if rd b s.at_ = 33 then addR 14 (tag b (s.at_ + 1)) (toR s o (-2))
                      else if rd b s.at_ = 39 then addR 16 (singleR b (s.at_ + 1) (line b s.at_)) (toR s o (-2))
                      else if rd b s.at_ = 34 then addR 17 (mn (doubleR b (s.at_ + 1) (line b s.at_)) (line b s.at_)) (toR s o (-2))
                      else if 0 < headR b s.op s.at_ then addR 18 (s.at_ + headR b s.op s.at_) (toR s o (if s.base < 0 then s.at_ - s.row - 1 else s.base))
                      else if (nx (b.drop s.at_.toNat)).1 < 0 then addR 22 (s.at_ + 1) (toR s o (-2))
                      else addR 15 (plainR b s.op s.at_) (toR s o (-2)) := by
                    rw [wordS_toR, if_neg hdr, if_neg hcl, names_eq, tag_eq]
                  have hS : signS b s = if (prop b s.at_).1 ≠ 0 then some (tk (prop b s.at_).1 (prop b s.at_).2 s) else none := by
                    unfold signS
                    rw [if_neg hbra, if_neg hds, if_neg hcl]
                  have pass : ∀ (k e : Int), signS b s = some (tk k e s) → wordS b (toR s o (-2)) = addR k e (toR s o (-2)) → k ≠ 1 → k ≠ 19 → k ≠ 4 → k ≠ 20 → s.at_ < e → e ≤ (b.length : Int) → ∃ o' t', Rel b (stepS b s) o' t' ∧ Fine b (toR (stepS b s) o' t') ∧ s.at_ < (stepS b s).at_ ∧ Reach b (toR s o (-2)) (toR (stepS b s) o' t') := by
                    intro k e g1 g2 g3 g4 g5 g6 g7 g8
                    exact one_rel (r := toR s o (-2)) s.op (k := k) (e := e) (stepS_sign hbn hln0 g1) ((hw.trans g2).trans rfl) hod hf g3 g4 g5 g6 hlt g7 g8 ho0 (by omega)
                  by_cases h33 : rd b s.at_ = 33
                  · refine pass 14 (tag b (s.at_ + 1)) ?_ ?_ (by decide) (by decide) (by decide) (by decide) (by omega) ht1.2
                    · have : prop b s.at_ = (14, tag b (s.at_ + 1)) := by unfold prop; rw [if_pos h33]
                      rw [hS, this]; rfl
                    · rw [hW, if_neg (by omega), if_neg (by omega), if_pos h33]
                  · by_cases h38 : rd b s.at_ = 38 ∧ names b (s.at_ + 1) > s.at_ + 1
                    · refine pass 12 (names b (s.at_ + 1)) ?_ ?_ (by decide) (by decide) (by decide) (by decide) (by omega) hn1.2
                      · have : prop b s.at_ = (12, names b (s.at_ + 1)) := by unfold prop; rw [if_neg h33, if_neg (by omega), if_pos h38.1]
                        rw [hS, this]; rfl
                      · rw [hW, if_pos h38]
                    · by_cases h42 : rd b s.at_ = 42 ∧ names b (s.at_ + 1) > s.at_ + 1
                      · refine pass 13 (names b (s.at_ + 1)) ?_ ?_ (by decide) (by decide) (by decide) (by decide) (by omega) hn1.2
                        · have : prop b s.at_ = (13, names b (s.at_ + 1)) := by unfold prop; rw [if_neg h33, if_neg (by omega), if_neg (by omega), if_pos h42.1]
                          rw [hS, this]; rfl
                        · rw [hW, if_neg h38, if_pos h42]
                      · have hp0 : (prop b s.at_).1 = 0 := by
                          unfold prop
                          rw [if_neg h33]
                          by_cases hn : names b (s.at_ + 1) = s.at_ + 1
                          · rw [if_pos hn]
                          · rw [if_neg hn, if_neg (fun h => h38 ⟨h, by omega⟩), if_neg (fun h => h42 ⟨h, by omega⟩)]
                        have hS0 : signS b s = none := by rw [hS, if_neg (by omega)]
                        have hst := stepS_text hbn hln0 hS0
                        rw [if_neg h38, if_neg h42, if_neg h33] at hW
                        have pass2 : ∀ (k e : Int), textS b s = tk k e s → wordS b (toR s o (-2)) = addR k e (toR s o (-2)) → k ≠ 1 → k ≠ 19 → k ≠ 4 → k ≠ 20 → s.at_ < e → e ≤ (b.length : Int) → ∃ o' t', Rel b (stepS b s) o' t' ∧ Fine b (toR (stepS b s) o' t') ∧ s.at_ < (stepS b s).at_ ∧ Reach b (toR s o (-2)) (toR (stepS b s) o' t') := by
                          intro k e g1 g2 g3 g4 g5 g6 g7 g8
                          exact one_rel (r := toR s o (-2)) s.op (k := k) (e := e) (hst.trans g1) ((hw.trans g2).trans rfl) hod hf g3 g4 g5 g6 hlt g7 g8 ho0 (by omega)
                        by_cases h39 : rd b s.at_ = 39
                        · have hsr := sgl_range b (line b s.at_) (line b s.at_ - s.at_).toNat (s.at_ + 1) s.at_ (by omega) hlm
                          refine pass2 16 (Sc.single b s.at_) ?_ ?_ (by decide) (by decide) (by decide) (by decide) hsr.1 (Int.le_trans hsr.2 hln.2)
                          · unfold textS; rw [if_pos h39]
                          · rw [hW, if_pos h39, single_eq b s.at_ hlt]
                        · by_cases h34 : rd b s.at_ = 34
                          · have hsr := dbl_range b (line b s.at_) (line b s.at_ - s.at_).toNat (s.at_ + 1) s.at_ (by omega) hlm
                            refine pass2 17 (Sc.double b s.at_) ?_ ?_ (by decide) (by decide) (by decide) (by decide) hsr.1 (Int.le_trans hsr.2 hln.2)
                            · unfold textS; rw [if_neg h39, if_pos h34]
                            · rw [hW, if_neg h39, if_pos h34, double_eq b s.at_ hlt]
                          · have hhe := head_eq b s.op s.at_ h00 hlt
                            by_cases hh : 0 < Sc.head b s.op s.at_
                            · -- a block text's head
                              have hhr := hhe.1.mp hh
                              have hh2 := hhe.2 hh
                              have hhl := head_le hlt hh
                              have hbb : -1 ≤ (if s.base < 0 then s.at_ - s.row - 1 else s.base) := by split <;> omega
                              have hb1 : s.base ≤ s.at_ := hf.b1
                              have hbt : (if s.base < 0 then s.at_ - s.row - 1 else s.base) ≤ s.at_ := by split <;> omega
                              generalize hbase : (if s.base < 0 then s.at_ - s.row - 1 else s.base) = base at *
                              have e1 : stepS b s = texts b base (tk 18 (Sc.head b s.op s.at_) s) := by
                                rw [hst]
                                unfold textS
                                rw [if_neg h39, if_neg h34, if_pos hh, hbase]
                              have hft : Fine b (toR s o base) := hf.text (t := base) (by omega) hbt
                              have e2 := add_tk (k := 18) (by decide) (by decide) (Sc.head b s.op s.at_) s o base
                              have hf2 := hft.add 18 (e := Sc.head b s.op s.at_) hhl.1 hhl.2
                              rw [e2] at hf2
                              have hdo : adOnly 18 o = (tk 18 (Sc.head b s.op s.at_) s).dash := by rw [hod]; exact only_dash (by decide) (by decide) (by decide) (by decide) _
                              rw [hdo] at hf2 e2
                              have hto : Sc.head b s.op s.at_ = headTo b s.at_ ∧ headOk b s.at_ = true := by
                                unfold Sc.head at hh ⊢
                                split at hh
                                · omega
                                · rename_i q1
                                  split at hh
                                  · rename_i q2
                                    split at hh
                                    · rename_i q3
                                      rw [if_neg q1, if_pos q2, if_pos q3]
                                      exact ⟨rfl, q3⟩
                                    · omega
                                  · omega
                              have key := texts_rel b hB base (tk 18 (Sc.head b s.op s.at_) s) hbb hf2 (by show s.row < Sc.head b s.op s.at_; omega) (by
                                have hok := hto.2
                                unfold headOk headAt at hok
                                rw [← hto.1] at hok
                                simp only [Bool.or_eq_true, Bool.and_eq_true, beq_iff_eq, decide_eq_true_eq] at hok
                                exact hok)
                              obtain ⟨o', t', k1, k2, k3, k4⟩ := key
                              rw [e1]
                              refine ⟨o', t', k1, k2, Int.lt_of_lt_of_le hhl.1 k3, Reach.trans (Reach.step (r' := toR (tk 18 (Sc.head b s.op s.at_) s) (tk 18 (Sc.head b s.op s.at_) s).dash base) hf hlt ?_ hhl.1) k4⟩
                              rw [hw, hW, if_neg h39, if_neg h34, if_pos hhr, ← hh2, ← e2]
                            · have hhr : ¬ 0 < headR b s.op s.at_ := fun h => hh (hhe.1.mpr h)
                              have hnx := next_is (b.drop s.at_.toNat) (hB.drop _) (by rw [List.length_drop]; omega)
                              by_cases hx : (nx (b.drop s.at_.toNat)).1 < 0
                              · refine pass2 22 (s.at_ + 1) ?_ ?_ (by decide) (by decide) (by decide) (by decide) (by omega) (by omega)
                                · unfold textS
                                  rw [if_neg h39, if_neg h34, if_neg hh, if_pos (by rw [hnx]; exact hx)]
                                · rw [hW, if_neg h39, if_neg h34, if_neg hhr, if_pos hx]
                              · have hpr := plainR_range b hB s.op s.at_ h00 hlt
                                have hpe := plain_eq b hB s.op s.at_ h00 hlm (by omega) (by simpa using hbk)
                                refine pass2 15 (plainR b s.op s.at_) ?_ ?_ (by decide) (by decide) (by decide) (by decide) hpr.1 hpr.2
                                · unfold textS
                                  rw [if_neg h39, if_neg h34, if_neg hh, if_neg (by rw [hnx]; exact hx), hpe]
                                · rw [hW, if_neg h39, if_neg h34, if_neg hhr, if_neg hx]
theorem run_rel (b : List Int) (hB : Byt b) : ∀ (k : Nat) (s : St) (o : Bool) (t : Int), (b.length : Int) - s.at_ ≤ (k : Int) → Rel b s o t → Fine b (toR s o t) → ∃ L, EndsO b s L ∧ EndsR b (toR s o t) L ∧ (L.length : Int) ≤ (b.length : Int) := by
  intro k
  induction k with
  | zero =>
    intro s o t hk hrel hf
    exact ⟨s.l, EndsO.stop (fine_ok hf) (by omega), EndsR.stop hf (by show ¬ s.at_ < _; omega), Int.le_trans hf.n hf.a1⟩
  | succ k ih =>
    intro s o t hk hrel hf
    by_cases hlt : s.at_ < (b.length : Int)
    · obtain ⟨o', t', h1, h2, h3, h4⟩ := step_rel b hB s o t hrel hf hlt
      obtain ⟨L, g1, g2, g3⟩ := ih (stepS b s) o' t' (by omega) h1 h2
      exact ⟨L, EndsO.step (fine_ok hf) hlt h3 g1, h4 L g2, g3⟩
    · exact ⟨s.l, EndsO.stop (fine_ok hf) hlt, EndsR.stop hf hlt, Int.le_trans hf.n hf.a1⟩
theorem start_rel (b : List Int) : Rel b st0 true (-2) ∧ Fine b (toR st0 true (-2)) := by
  refine ⟨⟨.inl rfl, .inl rfl, fun _ => rfl⟩, ⟨?_, ?_, ?_, ?_, ?_, ?_, ?_, ?_, ?_, ?_, .inl rfl⟩⟩ <;> simp [toR, st0]
theorem byt_bytB {b : List Int} (h : Byt b) : bytB b = true := by
  unfold bytB
  rw [List.all_eq_true]
  intro x hx
  simpa using h x hx
/-- Of any bytes the two answer the same tokens. -/
theorem toks_same (b : List Int) (hB : Byt b) : ∃ L, toksO b = some L ∧ toksR b = some L ∧ (L.length : Int) ≤ (b.length : Int) := by
  unfold toksO toksR
  by_cases c : (b.length : Int) > 16384
  · rw [if_pos c, if_pos c]
    exact ⟨[], rfl, rfl, by simp⟩
  · rw [if_neg c, if_neg c, if_pos (byt_bytB hB)]
    obtain ⟨h1, h2⟩ := start_rel b
    obtain ⟨L, g1, g2, g3⟩ := run_rel b hB b.length st0 true (-2) (by show (b.length : Int) - 0 ≤ _; omega) h1 h2
    obtain ⟨t1, e1, f1⟩ := g1 (b.length + 1) (by show (b.length : Int) - 0 < _; omega)
    obtain ⟨t2, e2, f2⟩ := g2 (b.length + 1) (by show (b.length : Int) - 0 < _; omega)
    refine ⟨L, ?_, ?_, g3⟩
    · rw [e1, ← f1]; rfl
    · have e2' : loopR b (b.length + 1) rs0 = some t2 := e2
      rw [e2', ← f2]; rfl
end Go.Proofs.Ythoogadfhopkfaa.Same
