/- What the first sign of a list of bytes is, and how many bytes it has: plain, and that the reference's Next answers it, at every list of bytes. -/
import Derived.Test.YtagjfcogbnhmgaaH
import Derived.Test.YtagjfcogbnhmgaaQcorrectorref1
import Derived.Laws.BitsLemmas
namespace Go.Proofs.Ytagjfcogbnhmgaa.Pure
open Go.RowKit Go.Proofs.Ytagjfcogbnhmgaa.Q Go.Proofs.YtagjfcogbnhmgaaW.PrintWords Go.Proofs.YtagjfcogbnhmgaaW.PrintLast

/-- Numbers that are bytes. -/
def Byt (l : List Int) : Prop := ∀ x ∈ l, 0 ≤ x ∧ x ≤ 255
theorem Byt.of_wf {l : List Int} (h : ∀ x ∈ l, (Lit.int .u8 x).wf = true) : Byt l := fun x hx => by
  have := h x hx
  simp [Lit.wf, IntKind.min, IntKind.max, IntKind.signed, IntKind.bits] at this
  omega
theorem Byt.rd {l : List Int} (h : Byt l) (i : Int) : 0 ≤ rd l i ∧ rd l i ≤ 255 := by
  unfold Go.Proofs.YtagjfcogbnhmgaaW.PrintWords.rd
  by_cases hi : i.toNat < l.length
  · rw [List.getD_eq_getElem?_getD, List.getElem?_eq_getElem hi]
    exact h _ (List.getElem_mem hi)
  · rw [List.getD_eq_getElem?_getD, List.getElem?_eq_none (by omega)]
    simp
theorem Byt.take {l : List Int} (h : Byt l) (n : Nat) : Byt (l.take n) := fun x hx => h x (List.mem_of_mem_take hx)
theorem Byt.drop {l : List Int} (h : Byt l) (n : Nat) : Byt (l.drop n) := fun x hx => h x (List.mem_of_mem_drop hx)
theorem Byt.append {l m : List Int} (h : Byt l) (k : Byt m) : Byt (l ++ m) := fun x hx => by
  rcases List.mem_append.1 hx with h1 | h1
  · exact h x h1
  · exact k x h1
theorem Byt.nil : Byt [] := fun x hx => by cases hx
theorem Byt.cons {a : Int} {l : List Int} (h0 : 0 ≤ a) (h1 : a ≤ 255) (k : Byt l) : Byt (a :: l) := fun x hx => by
  rcases List.mem_cons.1 hx with rfl | h2
  · exact ⟨h0, h1⟩
  · exact k x h2

/-- A byte that goes on with a sign. -/
def Ct (x : Int) : Prop := 128 ≤ x ∧ x ≤ 191
instance (x : Int) : Decidable (Ct x) := by unfold Ct; infer_instance
def v2 (l : List Int) : Int := (rd l 0 - 192) * 64 + (rd l 1 - 128)
def v3 (l : List Int) : Int := (rd l 0 - 224) * 4096 + (rd l 1 - 128) * 64 + (rd l 2 - 128)
def v4 (l : List Int) : Int := (rd l 0 - 240) * 262144 + (rd l 1 - 128) * 4096 + (rd l 2 - 128) * 64 + (rd l 3 - 128)
def Ok2 (l : List Int) : Prop := 2 ≤ l.length ∧ Ct (rd l 1) ∧ 128 ≤ v2 l
def Ok3 (l : List Int) : Prop := 3 ≤ l.length ∧ Ct (rd l 1) ∧ Ct (rd l 2) ∧ 2048 ≤ v3 l ∧ ¬ (55296 ≤ v3 l ∧ v3 l ≤ 57343)
def Ok4 (l : List Int) : Prop := 4 ≤ l.length ∧ Ct (rd l 1) ∧ Ct (rd l 2) ∧ Ct (rd l 3) ∧ 65536 ≤ v4 l ∧ v4 l ≤ 1114111
instance (l : List Int) : Decidable (Ok2 l) := by unfold Ok2; infer_instance
instance (l : List Int) : Decidable (Ok3 l) := by unfold Ok3; infer_instance
instance (l : List Int) : Decidable (Ok4 l) := by unfold Ok4; infer_instance
/-- The first sign of bytes, and how many it has; -1: there is none. -/
def nx (l : List Int) : Int × Int :=
  if l.length = 0 then (-1, 0)
  else if rd l 0 < 128 then (rd l 0, 1)
  else if rd l 0 < 192 then (-1, 1)
  else if rd l 0 < 224 then (if Ok2 l then (v2 l, 2) else (-1, 1))
  else if rd l 0 < 240 then (if Ok3 l then (v3 l, 3) else (-1, 1))
  else if rd l 0 < 248 then (if Ok4 l then (v4 l, 4) else (-1, 1))
  else (-1, 1)

/-! ### The reference -/
theorem sign_go (k : Nat) (l : List Int) (n v least i : Int) (h0 : 0 ≤ i) (h1 : i < n) (h2 : i < l.length) (hb : Byt l) (hv0 : 0 ≤ v) (hv1 : v < 2097152) (hl : (l.length : Int) ≤ 140737488351232) :
    correctorref1_sign.l0 (k + 1) l n v least i = if Ct (rd l i) then correctorref1_sign.l0 k l n (v * 64 + (rd l i - 128)) least (i + 1) else some (-1, 1) := by
  have hr := hb.rd i
  simp only [correctorref1_sign.l0]
  rw [if_pos h1, if_pos h0, if_pos h2]
  by_cases hc : Ct (rd l i)
  · rw [if_neg (by unfold Ct at hc; omega), if_neg (by unfold Ct at hc; omega), if_pos hc]
    unfold Ct at hc
    have e1 : Go.bits .and .u8 (rd l i) 63 = rd l i - 128 := by rw [u8_and63 _ hr.1 (by omega)]; omega
    have e2 : wrap32 (v * 64) = v * 64 := by unfold wrap32; omega
    have e3 : wrap32 (rd l i - 128) = rd l i - 128 := by unfold wrap32; omega
    have e4 : wrap64 (i + 1) = i + 1 := by unfold wrap64; omega
    rw [e1, e2, e3, e4, i32_or6 _ _ (by omega) (by omega) (by omega) (by omega) (by omega)]
  · rw [if_neg hc]
    unfold Ct at hc
    by_cases h3 : rd l i < 128
    · rw [if_pos h3]
    · rw [if_neg h3, if_pos (by omega)]
theorem sign_end (k : Nat) (l : List Int) (n v least i : Int) (h1 : n ≤ i) :
    correctorref1_sign.l0 (k + 1) l n v least i = if least ≤ v ∧ v ≤ 1114111 ∧ ¬ (55296 ≤ v ∧ v ≤ 57343) then some (v, n) else some (-1, 1) := by
  simp only [correctorref1_sign.l0]
  rw [if_neg (by omega)]
  by_cases a : v < least
  · rw [if_pos a, if_neg (by omega)]
  · rw [if_neg a]
    by_cases b : v > 1114111
    · rw [if_pos b, if_neg (by omega)]
    · rw [if_neg b]
      by_cases c : v ≥ 55296
      · rw [if_pos c]
        by_cases d : v ≤ 57343
        · rw [if_pos d, if_neg (by omega)]
        · rw [if_neg d, if_pos (by omega)]
      · rw [if_neg c, if_pos (by omega)]
theorem sign2 (k : Nat) (l : List Int) (v : Int) (hb : Byt l) (hl : (l.length : Int) ≤ 140737488351232) (hv0 : 0 ≤ v) (hv1 : v < 32) :
    correctorref1_sign.f (k + 5) l 2 v 128 = if 2 ≤ l.length ∧ Ct (rd l 1) ∧ 128 ≤ v * 64 + (rd l 1 - 128) then some (v * 64 + (rd l 1 - 128), 2) else some (-1, 1) := by
  unfold correctorref1_sign.f
  by_cases h : (l.length : Int) < 2
  · rw [if_pos h, if_neg (by omega)]
  · rw [if_neg h, sign_go (k + 4) l 2 v 128 1 (by omega) (by omega) (by omega) hb hv0 (by omega) hl]
    by_cases c : Ct (rd l 1)
    · rw [if_pos c, sign_end (k + 3) l 2 _ 128 _ (by omega)]
      have := c
      unfold Ct at this
      by_cases d : 128 ≤ v * 64 + (rd l 1 - 128)
      · rw [if_pos (by omega), if_pos ⟨by omega, c, d⟩]
      · rw [if_neg (by omega), if_neg (fun h => d h.2.2)]
    · rw [if_neg c, if_neg (fun h => c h.2.1)]
theorem sign3 (k : Nat) (l : List Int) (v : Int) (hb : Byt l) (hl : (l.length : Int) ≤ 140737488351232) (hv0 : 0 ≤ v) (hv1 : v < 16) :
    correctorref1_sign.f (k + 5) l 3 v 2048 = if 3 ≤ l.length ∧ Ct (rd l 1) ∧ Ct (rd l 2) ∧ 2048 ≤ (v * 64 + (rd l 1 - 128)) * 64 + (rd l 2 - 128) ∧ ¬ (55296 ≤ (v * 64 + (rd l 1 - 128)) * 64 + (rd l 2 - 128) ∧ (v * 64 + (rd l 1 - 128)) * 64 + (rd l 2 - 128) ≤ 57343) then some ((v * 64 + (rd l 1 - 128)) * 64 + (rd l 2 - 128), 3) else some (-1, 1) := by
  unfold correctorref1_sign.f
  by_cases h : (l.length : Int) < 3
  · rw [if_pos h, if_neg (by omega)]
  · rw [if_neg h, sign_go (k + 4) l 3 v 2048 1 (by omega) (by omega) (by omega) hb hv0 (by omega) hl]
    by_cases c : Ct (rd l 1)
    · have c1 := c
      unfold Ct at c1
      rw [if_pos c, sign_go (k + 3) l 3 _ 2048 (1 + 1) (by omega) (by omega) (by omega) hb (by omega) (by omega) hl, show (1 + 1 : Int) = 2 from rfl]
      by_cases d : Ct (rd l 2)
      · have d1 := d
        unfold Ct at d1
        rw [if_pos d, sign_end (k + 2) l 3 _ 2048 _ (by omega)]
        by_cases e : 2048 ≤ (v * 64 + (rd l 1 - 128)) * 64 + (rd l 2 - 128) ∧ ¬ (55296 ≤ (v * 64 + (rd l 1 - 128)) * 64 + (rd l 2 - 128) ∧ (v * 64 + (rd l 1 - 128)) * 64 + (rd l 2 - 128) ≤ 57343)
        · rw [if_pos (by omega), if_pos ⟨by omega, c, d, e⟩]
        · rw [if_neg (by omega), if_neg (fun h => e h.2.2.2)]
      · rw [if_neg d, if_neg (fun h => d h.2.2.1)]
    · rw [if_neg c, if_neg (fun h => c h.2.1)]
theorem sign4 (k : Nat) (l : List Int) (v : Int) (hb : Byt l) (hl : (l.length : Int) ≤ 140737488351232) (hv0 : 0 ≤ v) (hv1 : v < 8) :
    correctorref1_sign.f (k + 5) l 4 v 65536 = if 4 ≤ l.length ∧ Ct (rd l 1) ∧ Ct (rd l 2) ∧ Ct (rd l 3) ∧ 65536 ≤ ((v * 64 + (rd l 1 - 128)) * 64 + (rd l 2 - 128)) * 64 + (rd l 3 - 128) ∧ ((v * 64 + (rd l 1 - 128)) * 64 + (rd l 2 - 128)) * 64 + (rd l 3 - 128) ≤ 1114111 then some (((v * 64 + (rd l 1 - 128)) * 64 + (rd l 2 - 128)) * 64 + (rd l 3 - 128), 4) else some (-1, 1) := by
  unfold correctorref1_sign.f
  by_cases h : (l.length : Int) < 4
  · rw [if_pos h, if_neg (by omega)]
  · rw [if_neg h, sign_go (k + 4) l 4 v 65536 1 (by omega) (by omega) (by omega) hb hv0 (by omega) hl]
    by_cases c : Ct (rd l 1)
    · have c1 := c
      unfold Ct at c1
      rw [if_pos c, sign_go (k + 3) l 4 _ 65536 (1 + 1) (by omega) (by omega) (by omega) hb (by omega) (by omega) hl, show (1 + 1 : Int) = 2 from rfl]
      by_cases d : Ct (rd l 2)
      · have d1 := d
        unfold Ct at d1
        rw [if_pos d, sign_go (k + 2) l 4 _ 65536 (2 + 1) (by omega) (by omega) (by omega) hb (by omega) (by omega) hl, show (2 + 1 : Int) = 3 from rfl]
        by_cases g : Ct (rd l 3)
        · have g1 := g
          unfold Ct at g1
          rw [if_pos g, sign_end (k + 1) l 4 _ 65536 _ (by omega)]
          by_cases e : 65536 ≤ ((v * 64 + (rd l 1 - 128)) * 64 + (rd l 2 - 128)) * 64 + (rd l 3 - 128) ∧ ((v * 64 + (rd l 1 - 128)) * 64 + (rd l 2 - 128)) * 64 + (rd l 3 - 128) ≤ 1114111
          · rw [if_pos (by omega), if_pos ⟨by omega, c, d, g, e⟩]
          · rw [if_neg (by omega), if_neg (fun h => e h.2.2.2.2)]
        · rw [if_neg g, if_neg (fun h => g h.2.2.2.1)]
      · rw [if_neg d, if_neg (fun h => d h.2.2.1)]
    · rw [if_neg c, if_neg (fun h => c h.2.1)]
theorem bind_pair {α β : Type} (o : Option (α × β)) : (o.bind fun b => some (b.1, b.2)) = o := by cases o <;> rfl
theorem ref_next (k : Nat) (l : List Int) (hb : Byt l) (hl : (l.length : Int) ≤ 140737488351232) : correctorref1_Next.f (k + 8) l = some (nx l) := by
  have h0 := hb.rd 0
  unfold correctorref1_Next.f nx
  by_cases hn : l.length = 0
  · rw [if_pos (by omega), if_pos hn]
  · rw [if_neg (by omega), if_pos (by omega), if_neg hn]
    by_cases a : rd l 0 < 128
    · rw [if_pos a, if_pos a, show wrap32 (rd l 0) = rd l 0 by unfold wrap32; omega]
    · rw [if_neg a, if_neg a]
      by_cases b : rd l 0 < 192
      · rw [if_neg (by omega), if_pos b]
        simp only [correctorref1_Next.j0, correctorref1_Next.j1]
        rw [if_neg (by simp), if_neg (by omega), if_neg (by simp), if_neg (by omega)]
      · rw [if_pos (by omega), if_neg b]
        simp only [correctorref1_Next.j0]
        by_cases c : rd l 0 < 224
        · rw [if_pos (by simpa using c), if_pos c, bind_pair, u8_and31 _ h0.1 (by omega), show wrap32 (rd l 0 % 32) = rd l 0 - 192 by unfold wrap32; omega, sign2 (k + 2) l _ hb hl (by omega) (by omega)]
          by_cases hq : Ok2 l
          · rw [if_pos hq]; exact if_pos hq
          · rw [if_neg hq]; exact if_neg hq
        · rw [if_neg (by simpa using c), if_neg c, if_pos (by omega)]
          simp only [correctorref1_Next.j1]
          by_cases d : rd l 0 < 240
          · rw [if_pos (by simpa using d), if_pos d, bind_pair, u8_and15 _ h0.1 (by omega), show wrap32 (rd l 0 % 16) = rd l 0 - 224 by unfold wrap32; omega, sign3 (k + 1) l _ hb hl (by omega) (by omega)]
            rw [show ((rd l 0 - 224) * 64 + (rd l 1 - 128)) * 64 + (rd l 2 - 128) = (rd l 0 - 224) * 4096 + (rd l 1 - 128) * 64 + (rd l 2 - 128) by omega]
            by_cases hq : Ok3 l
            · rw [if_pos hq]; exact if_pos hq
            · rw [if_neg hq]; exact if_neg hq
          · rw [if_neg (by simpa using d), if_neg d, if_pos (by omega)]
            by_cases e : rd l 0 < 248
            · rw [if_pos e, if_pos e, bind_pair, u8_and7 _ h0.1 (by omega), show wrap32 (rd l 0 % 8) = rd l 0 - 240 by unfold wrap32; omega, sign4 (k + 1) l _ hb hl (by omega) (by omega)]
              rw [show (((rd l 0 - 240) * 64 + (rd l 1 - 128)) * 64 + (rd l 2 - 128)) * 64 + (rd l 3 - 128) = (rd l 0 - 240) * 262144 + (rd l 1 - 128) * 4096 + (rd l 2 - 128) * 64 + (rd l 3 - 128) by omega]
              by_cases hq : Ok4 l
              · rw [if_pos hq]; exact if_pos hq
              · rw [if_neg hq]; exact if_neg hq
            · rw [if_neg e, if_neg e]
theorem ref_next' (k : Nat) (hk : 8 ≤ k) (l : List Int) (hb : Byt l) (hl : (l.length : Int) ≤ 140737488351232) : correctorref1_Next.f k l = some (nx l) := by
  obtain ⟨m, rfl⟩ : ∃ m, k = m + 8 := ⟨k - 8, by omega⟩
  exact ref_next m l hb hl

/-! ### What it answers -/
theorem nx_cases (l : List Int) (h0 : l.length ≠ 0) :
    (rd l 0 < 128 ∧ nx l = (rd l 0, 1)) ∨ (192 ≤ rd l 0 ∧ rd l 0 < 224 ∧ Ok2 l ∧ nx l = (v2 l, 2)) ∨ (224 ≤ rd l 0 ∧ rd l 0 < 240 ∧ Ok3 l ∧ nx l = (v3 l, 3)) ∨ (240 ≤ rd l 0 ∧ rd l 0 < 248 ∧ Ok4 l ∧ nx l = (v4 l, 4)) ∨ (128 ≤ rd l 0 ∧ nx l = (-1, 1)) := by
  unfold nx
  rw [if_neg h0]
  by_cases a : rd l 0 < 128
  · exact .inl ⟨a, by rw [if_pos a]⟩
  rw [if_neg a]
  by_cases b : rd l 0 < 192
  · exact .inr (.inr (.inr (.inr ⟨by omega, by rw [if_pos b]⟩)))
  rw [if_neg b]
  by_cases c : rd l 0 < 224
  · rw [if_pos c]
    by_cases d : Ok2 l
    · exact .inr (.inl ⟨by omega, c, d, by rw [if_pos d]⟩)
    · exact .inr (.inr (.inr (.inr ⟨by omega, by rw [if_neg d]⟩)))
  rw [if_neg c]
  by_cases e : rd l 0 < 240
  · rw [if_pos e]
    by_cases d : Ok3 l
    · exact .inr (.inr (.inl ⟨by omega, e, d, by rw [if_pos d]⟩))
    · exact .inr (.inr (.inr (.inr ⟨by omega, by rw [if_neg d]⟩)))
  rw [if_neg e]
  by_cases f : rd l 0 < 248
  · rw [if_pos f]
    by_cases d : Ok4 l
    · exact .inr (.inr (.inr (.inl ⟨by omega, f, d, by rw [if_pos d]⟩)))
    · exact .inr (.inr (.inr (.inr ⟨by omega, by rw [if_neg d]⟩)))
  · exact .inr (.inr (.inr (.inr ⟨by omega, by rw [if_neg f]⟩)))
theorem nx_nil : nx [] = (-1, 0) := by simp [nx]
theorem nx_1 {l : List Int} (h0 : l.length ≠ 0) (a : rd l 0 < 128) : nx l = (rd l 0, 1) := by unfold nx; rw [if_neg h0, if_pos a]
theorem nx_2 {l : List Int} (h0 : l.length ≠ 0) (a : 192 ≤ rd l 0) (b : rd l 0 < 224) (o : Ok2 l) : nx l = (v2 l, 2) := by unfold nx; rw [if_neg h0, if_neg (by omega), if_neg (by omega), if_pos b, if_pos o]
theorem nx_3 {l : List Int} (h0 : l.length ≠ 0) (a : 224 ≤ rd l 0) (b : rd l 0 < 240) (o : Ok3 l) : nx l = (v3 l, 3) := by unfold nx; rw [if_neg h0, if_neg (by omega), if_neg (by omega), if_neg (by omega), if_pos b, if_pos o]
theorem nx_4 {l : List Int} (h0 : l.length ≠ 0) (a : 240 ≤ rd l 0) (b : rd l 0 < 248) (o : Ok4 l) : nx l = (v4 l, 4) := by unfold nx; rw [if_neg h0, if_neg (by omega), if_neg (by omega), if_neg (by omega), if_neg (by omega), if_pos b, if_pos o]
/-- The sign's number: none, or a sign's; how many bytes. -/
theorem nx_fine (l : List Int) (hb : Byt l) (h0 : l.length ≠ 0) : 1 ≤ (nx l).2 ∧ (nx l).2 ≤ 4 ∧ (nx l).2 ≤ l.length ∧ -1 ≤ (nx l).1 ∧ (nx l).1 ≤ 1114111 ∧ ((nx l).1 < 0 → (nx l).2 = 1) := by
  have r0 := hb.rd 0
  rcases nx_cases l h0 with ⟨h, e⟩ | ⟨h, h', ⟨o1, o2, o3⟩, e⟩ | ⟨h, h', ⟨o1, o2, o3, o4, o5⟩, e⟩ | ⟨h, h', ⟨o1, o2, o3, o4, o5, o6⟩, e⟩ | ⟨h, e⟩ <;> rw [e]
  · refine ⟨?_, ?_, ?_, ?_, ?_, ?_⟩ <;> simp only <;> omega
  · unfold Ct v2 at *
    refine ⟨?_, ?_, ?_, ?_, ?_, ?_⟩ <;> simp only <;> omega
  · unfold Ct v3 at *
    refine ⟨?_, ?_, ?_, ?_, ?_, ?_⟩ <;> simp only <;> omega
  · unfold Ct v4 at *
    refine ⟨?_, ?_, ?_, ?_, ?_, ?_⟩ <;> simp only <;> omega
  · exact ⟨by decide, by decide, by simp only; omega, by decide, by decide, fun _ => rfl⟩
theorem rd_take (l : List Int) (n : Nat) (i : Int) (h : i.toNat < n) : rd (l.take n) i = rd l i := by
  unfold Go.Proofs.YtagjfcogbnhmgaaW.PrintWords.rd
  rw [List.getD_eq_getElem?_getD, List.getD_eq_getElem?_getD, List.getElem?_take_of_lt h]
theorem nx_take4 (l : List Int) : nx (l.take 4) = nx l := by
  have e0 := rd_take l 4 0 (by decide)
  have e1 := rd_take l 4 1 (by decide)
  have e2 := rd_take l 4 2 (by decide)
  have e3 := rd_take l 4 3 (by decide)
  have hl : (l.take 4).length = min 4 l.length := List.length_take
  have w2 : v2 (l.take 4) = v2 l := by unfold v2; rw [e0, e1]
  have w3 : v3 (l.take 4) = v3 l := by unfold v3; rw [e0, e1, e2]
  have w4 : v4 (l.take 4) = v4 l := by unfold v4; rw [e0, e1, e2, e3]
  have o2 : Ok2 (l.take 4) = Ok2 l := by unfold Ok2; rw [e1, w2, hl, show (2 ≤ min 4 l.length) = (2 ≤ l.length) by (apply propext; omega)]
  have o3 : Ok3 (l.take 4) = Ok3 l := by unfold Ok3; rw [e1, e2, w3, hl, show (3 ≤ min 4 l.length) = (3 ≤ l.length) by (apply propext; omega)]
  have o4 : Ok4 (l.take 4) = Ok4 l := by unfold Ok4; rw [e1, e2, e3, w4, hl, show (4 ≤ min 4 l.length) = (4 ≤ l.length) by (apply propext; omega)]
  unfold nx
  simp only [e0, w2, w3, w4, o2, o3, o4, hl, show (min 4 l.length = 0) = (l.length = 0) by (apply propext; omega)]

/-! ### The model's own decoding of the same bytes -/
theorem get_strOfNums (l : List Int) (hb : Byt l) (k : Nat) : ((strOfNums l).get! (0 + k)).toNat = (rd l (k : Int)).toNat := by
  unfold Go.Proofs.YtagjfcogbnhmgaaW.PrintWords.rd strOfNums
  rw [Nat.zero_add]
  show ((⟨(l.map fun n => UInt8.ofNat n.toNat).toArray⟩ : ByteArray).get! k).toNat = _
  simp only [ByteArray.get!]
  rw [Int.toNat_natCast, List.getD_eq_getElem?_getD]
  by_cases h : k < l.length
  · have := hb _ (List.getElem_mem h)
    simp [h]
    omega
  · simp [h]
    rfl
theorem size_strOfNums (l : List Int) : (strOfNums l).size = l.length := by simp [strOfNums, ByteArray.size]
theorem valid_iff (c : Nat) : Utf8.valid (c : Int) = true ↔ (c < 55296 ∨ (57344 ≤ c ∧ c ≤ 1114111)) := by
  unfold Utf8.valid
  rw [Bool.or_eq_true, Bool.and_eq_true, Bool.and_eq_true, decide_eq_true_iff, decide_eq_true_iff, decide_eq_true_iff, decide_eq_true_iff]
  omega
theorem bool_ge (c n : Nat) : (decide (c ≥ n) && Utf8.valid (c : Int)) = true ↔ n ≤ c ∧ (c < 55296 ∨ (57344 ≤ c ∧ c ≤ 1114111)) := by
  rw [Bool.and_eq_true, decide_eq_true_iff, valid_iff]
theorem bool_ct (n k b : Nat) : (decide (k < n) && b / 64 == 2) = true ↔ k < n ∧ b / 64 = 2 := by
  rw [Bool.and_eq_true, decide_eq_true_iff, beq_iff_eq]
theorem dec_plain (l : List Int) (hb : Byt l) (h0 : l.length ≠ 0) : Utf8.decode (strOfNums l) 0 = if (nx l).1 < 0 then (65533, 1) else ((nx l).1.toNat, (nx l).2.toNat) := by
  have g := get_strOfNums l hb
  have hs := size_strOfNums l
  have r0 := hb.rd 0
  have r1 := hb.rd 1
  have r2 := hb.rd 2
  have r3 := hb.rd 3
  have g0 := g 0
  have g1 := g 1
  have g2 := g 2
  have g3 := g 3
  clear g
  simp only [Int.natCast_zero, Int.natCast_one, show ((2 : Nat) : Int) = 2 from rfl, show ((3 : Nat) : Int) = 3 from rfl] at g0 g1 g2 g3
  have q0 : rd l 0 = ((rd l 0).toNat : Int) := by omega
  have q1 : rd l 1 = ((rd l 1).toNat : Int) := by omega
  have q2 : rd l 2 = ((rd l 2).toNat : Int) := by omega
  have q3 : rd l 3 = ((rd l 3).toNat : Int) := by omega
  have hnx : nx l = nx l := rfl
  conv at hnx => rhs; unfold nx
  rw [if_neg h0] at hnx
  unfold Utf8.decode
  simp only [g0, g1, g2, g3, hs, Utf8.runeError]
  generalize (rd l 0).toNat = b0 at *
  generalize (rd l 1).toNat = b1 at *
  generalize (rd l 2).toNat = b2 at *
  generalize (rd l 3).toNat = b3 at *
  clear g0 g1 g2 g3
  by_cases a : rd l 0 < 128
  · rw [if_pos a] at hnx
    rw [hnx, if_pos (by omega), if_neg (by simp only; omega)]
    refine Prod.ext ?_ ?_ <;> simp only <;> omega
  rw [if_neg a] at hnx
  rw [if_neg (by omega)]
  by_cases b : rd l 0 < 192
  · rw [if_pos b] at hnx
    have c1 : (b0 / 32 == 6) = false := beq_eq_false_iff_ne.mpr (by omega)
    have c2 : (b0 / 16 == 14) = false := beq_eq_false_iff_ne.mpr (by omega)
    have c3 : (b0 / 8 == 30) = false := beq_eq_false_iff_ne.mpr (by omega)
    simp only [c1, c2, c3, Bool.false_and, Bool.false_eq_true, if_false]
    rw [hnx, if_pos (by decide)]
  rw [if_neg b] at hnx
  by_cases c : rd l 0 < 224
  · rw [if_pos c] at hnx
    have c1 : (b0 / 32 == 6) = true := beq_iff_eq.mpr (by omega)
    have c2 : (b0 / 16 == 14) = false := beq_eq_false_iff_ne.mpr (by omega)
    have c3 : (b0 / 8 == 30) = false := beq_eq_false_iff_ne.mpr (by omega)
    simp only [c1, c2, c3, Bool.true_and, Bool.false_and, Bool.false_eq_true, if_false]
    by_cases o : Ok2 l
    · rw [if_pos o] at hnx
      have o' := o
      unfold Ok2 Ct v2 at o'
      rw [hnx, if_pos ((bool_ct _ _ _).2 (by omega)), if_pos (by omega), if_neg (by simp only [v2]; omega)]
      unfold v2
      refine Prod.ext ?_ ?_ <;> simp only <;> omega
    · rw [if_neg o] at hnx
      rw [hnx, if_pos (show ((-1 : Int), (1 : Int)).1 < 0 by decide)]
      by_cases t1 : (decide (0 + 1 < l.length) && b1 / 64 == 2) = true
      · rw [if_pos t1]
        rw [bool_ct] at t1
        have o' : ¬ (128 ≤ v2 l) := fun h => o ⟨by omega, by unfold Ct; omega, h⟩
        unfold v2 at o'
        rw [if_neg (by omega)]
      · rw [if_neg t1]
  rw [if_neg c] at hnx
  have c1 : (b0 / 32 == 6) = false := beq_eq_false_iff_ne.mpr (by omega)
  by_cases d : rd l 0 < 240
  · rw [if_pos d] at hnx
    have c2 : (b0 / 16 == 14) = true := beq_iff_eq.mpr (by omega)
    have c3 : (b0 / 8 == 30) = false := beq_eq_false_iff_ne.mpr (by omega)
    simp only [c1, c2, c3, Bool.true_and, Bool.false_and, Bool.false_eq_true, if_false]
    by_cases o : Ok3 l
    · rw [if_pos o] at hnx
      have o' := o
      unfold Ok3 Ct v3 at o'
      rw [hnx, if_pos (by rw [Bool.and_eq_true, bool_ct, bool_ct]; omega), if_pos ((bool_ge _ _).2 (by omega)), if_neg (by simp only [v3]; omega)]
      unfold v3
      refine Prod.ext ?_ ?_ <;> simp only <;> omega
    · rw [if_neg o] at hnx
      rw [hnx, if_pos (show ((-1 : Int), (1 : Int)).1 < 0 by decide)]
      by_cases t1 : ((decide (0 + 1 < l.length) && b1 / 64 == 2) && (decide (0 + 2 < l.length) && b2 / 64 == 2)) = true
      · rw [if_pos t1]
        rw [Bool.and_eq_true, bool_ct, bool_ct] at t1
        have o' : ¬ (2048 ≤ v3 l ∧ ¬ (55296 ≤ v3 l ∧ v3 l ≤ 57343)) := fun h => o ⟨by omega, by unfold Ct; omega, by unfold Ct; omega, h.1, h.2⟩
        unfold v3 at o'
        rw [if_neg (fun h => by rw [bool_ge] at h; omega)]
      · rw [if_neg t1]
  rw [if_neg d] at hnx
  have c2 : (b0 / 16 == 14) = false := beq_eq_false_iff_ne.mpr (by omega)
  by_cases e : rd l 0 < 248
  · rw [if_pos e] at hnx
    have c3 : (b0 / 8 == 30) = true := beq_iff_eq.mpr (by omega)
    simp only [c1, c2, c3, Bool.true_and, Bool.false_and, Bool.false_eq_true, if_false]
    by_cases o : Ok4 l
    · rw [if_pos o] at hnx
      have o' := o
      unfold Ok4 Ct v4 at o'
      rw [hnx, if_pos (by rw [Bool.and_eq_true, Bool.and_eq_true, bool_ct, bool_ct, bool_ct]; omega), if_pos ((bool_ge _ _).2 (by omega)), if_neg (by simp only [v4]; omega)]
      unfold v4
      refine Prod.ext ?_ ?_ <;> simp only <;> omega
    · rw [if_neg o] at hnx
      rw [hnx, if_pos (show ((-1 : Int), (1 : Int)).1 < 0 by decide)]
      by_cases t1 : (((decide (0 + 1 < l.length) && b1 / 64 == 2) && (decide (0 + 2 < l.length) && b2 / 64 == 2)) && (decide (0 + 3 < l.length) && b3 / 64 == 2)) = true
      · rw [if_pos t1]
        rw [Bool.and_eq_true, Bool.and_eq_true, bool_ct, bool_ct, bool_ct] at t1
        have o' : ¬ (65536 ≤ v4 l ∧ v4 l ≤ 1114111) := fun h => o ⟨by omega, by unfold Ct; omega, by unfold Ct; omega, by unfold Ct; omega, h.1, h.2⟩
        unfold v4 at o'
        rw [if_neg (fun h => by rw [bool_ge] at h; omega)]
      · rw [if_neg t1]
  rw [if_neg e] at hnx
  have c3 : (b0 / 8 == 30) = false := beq_eq_false_iff_ne.mpr (by omega)
  simp only [c1, c2, c3, Bool.false_and, Bool.false_eq_true, if_false]
  rw [hnx, if_pos (by decide)]
theorem next_plain (l : List Int) (hb : Byt l) (h0 : l.length ≠ 0) : nextS (strOfNums l) = nx l := by
  unfold nextS
  rw [dec_plain l hb h0]
  have hf := nx_fine l hb h0
  by_cases h : (nx l).1 < 0
  · rw [if_pos h, if_pos (by decide)]
    refine Prod.ext ?_ ?_ <;> simp only <;> omega
  · rw [if_neg h]
    have h3 : ¬ ((nx l).1.toNat = 65533 ∧ (nx l).2.toNat < 3) := by
      have r0 := hb.rd 0
      rcases nx_cases l h0 with ⟨h, e⟩ | ⟨h, h', ⟨o1, o2, o3⟩, e⟩ | ⟨h, h', ⟨o1, o2, o3, o4, o5⟩, e⟩ | ⟨h, h', ⟨o1, o2, o3, o4, o5, o6⟩, e⟩ | ⟨h, e⟩ <;> rw [e] <;> simp only
      · omega
      · unfold Ct v2 at *
        omega
      · omega
      · omega
      · omega
    rw [if_neg h3]
    refine Prod.ext ?_ ?_ <;> simp only <;> omega
end Go.Proofs.Ytagjfcogbnhmgaa.Pure
