/- Rows of laws: an argument that is a slice of bools, or of texts. No program in them. -/
import Derived.ChangeSlices
import Derived.SizedLaws
import Derived.ChangeArms
import Derived.RowKit
import Derived.Test.YtpinegfbcbfnoaaWMore
namespace Go.Proofs.Ytpinegfbcbfnoaa.Q
open Go.RowKit Go.ChangeShapes Go.WideShapes Go.Proofs.YtpinegfbcbfnoaaW.PrintWords Go.Proofs.YtpinegfbcbfnoaaW.PrintLast Go.Proofs.YtpinegfbcbfnoaaW.PrintMore
set_option linter.unusedVariables false
set_option linter.unusedSimpArgs false

/-! A law's argument that is a slice of bools, or of texts: its row, and what it weighs. -/
theorem list_of {α : Type} (d : α) (n : Nat) (P : Nat → α → Prop) (h : ∀ i, i < n → ∃ x, P i x) : ∃ l : List α, l.length = n ∧ ∀ i, i < n → P i (l.getD i d) := by
  induction n with
  | zero => exact ⟨[], rfl, fun i hi => absurd hi (Nat.not_lt_zero i)⟩
  | succ n ih =>
    obtain ⟨l, hl, hp⟩ := ih fun i hi => h i (Nat.lt_succ_of_lt hi)
    obtain ⟨x, hx⟩ := h n (Nat.lt_succ_self n)
    refine ⟨l ++ [x], by rw [List.length_append, hl]; rfl, fun i hi => ?_⟩
    by_cases c : i < n
    · have := hp i c
      rw [List.getD_eq_getElem?_getD] at this ⊢
      rwa [List.getElem?_append_left (by omega)]
    · obtain rfl : i = n := by omega
      rw [List.getD_eq_getElem?_getD, List.getElem?_append_right (by omega), show i - l.length = 0 by omega]
      exact hx
section
variable {H : Type} {enc : TypeId × Value → H} {P : Program} {W : World} {base : Nat} {spare : Nat → Bool} {held : Bool} {t e : TypeId}
theorem open_rowOf {α : Type} (encv : α → Value) (h1 : ∀ x, (encv x).oneCell' = true) (dat : α → DataW H) (ok : α → Prop) (d : α) {a : Option Addr} {len cap : Nat} {dd : DataW H} {ps : List MemPlace}
    (hu : P.underlying t = some (.slice e)) (hc : P.cellsOf e = 1)
    (hel : ∀ fuel cs x, DataW.trod enc P W base spare held fuel e cs = some x → ∃ y : α, cs = [encv y] ∧ x.1 = dat y ∧ ok y)
    (h : DataW.Trod enc P W base spare held t (.slice a len cap) dd ps) :
    ∃ l : List α, len = l.length ∧ (Kd.scalar encv h1).C W a l.length l ∧ l.length ≤ cap ∧ l.length ≤ maxLen ∧ (∀ x ∈ l, ok x) ∧ (l = [] ∨ ∃ rest, dd = .slice (l.map dat) rest) := by
  obtain ⟨fuel, hf⟩ := h
  rcases DataW.trod_slice hu hf with ⟨hcs, _⟩ | ⟨a', len', cap', elems, rest, n, _, hcs, hx, _, hl, hm, hlen, hE, _, _⟩
  · simp [Value.cells] at hcs
    obtain ⟨rfl, rfl, rfl⟩ := hcs
    exact ⟨[], rfl, Kd.C_of_reads (d := d) ⟨rfl, Nat.zero_le _, fun h => absurd h (Nat.lt_irrefl 0)⟩, Nat.le_refl _, Nat.zero_le _, fun x hx => by simp at hx, Or.inl rfl⟩
  · simp [Value.cells] at hcs
    obtain ⟨rfl, rfl, rfl⟩ := hcs
    obtain ⟨l, hll, hp⟩ := list_of d len (fun i x => W.cell? (a'.add i) = some (encv x) ∧ ok x ∧ (elems[i]?).map (·.1) = some (dat x)) fun i hi => by
      have hb := hE i hi
      obtain ⟨y, hy⟩ : ∃ y, elems[i]? = some y := ⟨_, List.getElem?_eq_getElem (by omega)⟩
      rw [hc, Nat.mul_one, hy, Option.bind_eq_some_iff] at hb
      obtain ⟨cs', hcs, hb⟩ := hb
      obtain ⟨z, rfl, hz, ho⟩ := hel _ _ _ hb
      exact ⟨z, ChangeShapes.cell_of_cells?_one hcs, ho, by rw [hy, Option.map_some, hz]⟩
    subst hll
    have hm' : l.length ≤ maxLen := Nat.le_trans hl hm
    refine ⟨l, rfl, Kd.C_of_reads (d := d) ⟨rfl, by simpa [maxLen] using hm', fun _ => ⟨a', rfl, fun j hj => (hp j hj).1⟩⟩, hl, hm', fun x hx => ?_, .inr ⟨rest.map (·.1), ?_⟩⟩
    · obtain ⟨i, hi, rfl⟩ := List.getElem_of_mem hx
      have := (hp i hi).2.1
      rwa [List.getD_eq_getElem?_getD, List.getElem?_eq_getElem hi] at this
    · rw [(Prod.mk.inj hx).1]
      congr 1
      apply List.ext_getElem?
      intro i
      rw [List.getElem?_map, List.getElem?_map]
      by_cases hi : i < l.length
      · have := (hp i hi).2.2
        rw [List.getD_eq_getElem?_getD, List.getElem?_eq_getElem hi] at this
        rw [this, List.getElem?_eq_getElem hi]
        rfl
      · rw [List.getElem?_eq_none (by omega), List.getElem?_eq_none (by omega)]
        rfl
variable {ts : List TypeId} {ds : List (DataW H)}
theorem open_bools (hsz : (DataW.weightsEach P ts ds).all (· ≤ reachBytes) = true) {j : Nat} {a : Option Addr} {len cap : Nat} {dd : DataW H} {ps : List MemPlace} (ht : ts[j]? = some t) (hd : ds[j]? = some dd)
    (hu : P.underlying t = some (.slice e)) (he : P.underlying e = some .bool) (hc : P.cellsOf e = 1) {B : Nat} (hB : P.bytesOf e = B) (h : DataW.Trod enc P W base spare held t (.slice a len cap) dd ps) :
    ∃ l : List Bool, len = l.length ∧ Kd.bool.C W a l.length l ∧ l.length ≤ cap ∧ l.length ≤ maxLen ∧ l.length * B ≤ 140737488351232 := by
  obtain ⟨l, hl, hC, hcap, hm, _, hw⟩ := open_rowOf Value.bool (fun _ => rfl) (fun b => .lit (.bool b)) (fun _ => True) false hu hc (fun fuel cs x hx => by
    obtain ⟨b, rfl, rfl⟩ := DataW.trod_bool he hx
    exact ⟨b, rfl, rfl, trivial⟩) h
  refine ⟨l, hl, hC, hcap, hm, ?_⟩
  rcases hw with rfl | ⟨rest, rfl⟩
  · simp
  · have z := sized_slice hsz ht hd hu
    rw [hB, List.length_map, Nat.add_mul] at z
    have : reachBytes = 140737488351232 := rfl
    omega
theorem weights_all (l : List (DataW H)) (d : DataW H) (hd : d ∈ l) (n : Nat) (hn : n ∈ d.weights P e) : n ∈ DataW.weightsAll P e l := by
  induction l with
  | nil => cases hd
  | cons x r ih =>
    rw [DataW.weightsAll]
    rcases List.mem_cons.1 hd with rfl | h
    · exact List.mem_append_left _ hn
    · exact List.mem_append_right _ (ih h)
theorem open_texts (hsz : (DataW.weightsEach P ts ds).all (· ≤ reachBytes) = true) {j : Nat} {a : Option Addr} {len cap : Nat} {dd : DataW H} {ps : List MemPlace} (ht : ts[j]? = some t) (hd : ds[j]? = some dd)
    (hu : P.underlying t = some (.slice e)) (he : P.underlying e = some .string) (hc : P.cellsOf e = 1) {B : Nat} (hB : P.bytesOf e = B) (h : DataW.Trod enc P W base spare held t (.slice a len cap) dd ps) :
    ∃ l : List ByteArray, len = l.length ∧ Kd.string.C W a l.length l ∧ l.length ≤ cap ∧ l.length ≤ maxLen ∧ l.length * B ≤ 140737488351232 ∧ ∀ x ∈ l, x.size ≤ 140737488351232 := by
  obtain ⟨l, hl, hC, hcap, hm, _, hw⟩ := open_rowOf Value.string (fun _ => rfl) (fun s => .lit (.string s.data.toList)) (fun _ => True) ByteArray.empty hu hc (fun fuel cs x hx => by
    obtain ⟨b, rfl, rfl, _⟩ := DataW.trod_string he hx
    exact ⟨b, rfl, rfl, trivial⟩) h
  have hr : reachBytes = 140737488351232 := rfl
  rcases hw with rfl | ⟨rest, rfl⟩
  · exact ⟨[], hl, hC, hcap, hm, by simp, fun x hx => by cases hx⟩
  · have z := sized_slice hsz ht hd hu
    rw [hB, List.length_map, Nat.add_mul] at z
    refine ⟨l, hl, hC, hcap, hm, by omega, fun x hx => ?_⟩
    have hm2 : x.data.toList.length ∈ DataW.weightsEach P ts ds := DataW.weights_mem_each ht hd _ (by
      simp only [DataW.weights, hu, List.mem_cons, List.mem_append]
      exact .inr (.inl (weights_all _ (.lit (.string x.data.toList)) (List.mem_map.2 ⟨x, hx, rfl⟩) _ (by simp [DataW.weights]))))
    have := List.all_eq_true.1 hsz _ hm2
    rw [decide_eq_true_eq, Array.length_toList, hr] at this
    exact this
end
end Go.Proofs.Ytpinegfbcbfnoaa.Q
