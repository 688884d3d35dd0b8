/- Proved here, in the forms of the print's contracts: what each Go function answers, and the rows of the laws over it; by a program and by hand. -/
import Derived.Test.YtagjfcogbnhmgaaSh
import Derived.Test.YtagjfcogbnhmgaaQ0
import Derived.Test.YtagjfcogbnhmgaaQstringslite
namespace Go.Proofs.Ytagjfcogbnhmgaa.Q
open Go.RowKit Go.Proofs.YtagjfcogbnhmgaaW.PrintWords Go.Proofs.YtagjfcogbnhmgaaW.PrintLast Go.Proofs.YtagjfcogbnhmgaaW.PrintMore
attribute [local go_sem] max2_int min2_int max_two min_two max_three min_three max_four min_four   -- for this text's walks alone
set_option linter.unusedVariables false
set_option linter.unusedSimpArgs false

/-! ### strings_HasPrefix: function 39 -/
def strings_HasPrefix.f (a0 : ByteArray) (a1 : ByteArray) : Option (Bool) := (stringslite_HasPrefix.f a0 a1).bind fun t117 => (some t117)
set_option maxHeartbeats 8000000 in
set_option maxRecDepth 100000 in
theorem strings_HasPrefix.calls (a0 : ByteArray) (a1 : ByteArray) (r : Bool) (w : World) (h : strings_HasPrefix.f a0 a1 = some r) :
    Calls Try.prog 39 #[.string a0, .string a1] w fun e w' => e = .returned (.bool r) ∧ Drawn0 w w' := by
  have H : ((stringslite_HasPrefix.f a0 a1).bind fun t117 => (some t117)) = some r := h
  clear h
  replace H := Option.bind_eq_some_iff.mp H
  obtain ⟨t117, A30, H⟩ := H
  replace H : (some t117) = some r := H
  have A3 := Aside0.mk A30
  clear A30
  obtain rfl := Option.some.inj H
  go_enter Try.func39, Try.ntmps39
  go_wp2_with (first | ((with_reducible refine gate_callee (f := 49) rfl ?_); refine goesL_ (some 7) rfl rfl Try.func49 (by kernel_rfl) rfl #[.string a0, .string a1] rfl (by (try simp only [List.map_toArray, List.map_cons, List.map_nil]); first | done | rfl | (simp only [List.length_drop, List.length_take]; rfl) | (simp only [ByteArray.size_extract, Nat.min_self]; done) | (simp only [ByteArray.size_extract, Nat.min_self]; rfl)) ?_; (with_reducible refine (stringslite_HasPrefix.calls a0 a1 t117 _ A3.out).mono ?_); rintro e w' ⟨rfl, ⟨nd, rfl⟩⟩; refine ⟨_, rfl, ?_⟩))
  go_ret
  exact ⟨by first | rfl | (simp; done) | (simp [*]; done), by repeat (first | exact Drawn0.refl _ | apply Drawn0.step)⟩

-- NOT PRINTED: function 50 (strings_Builder_copyCheck)

-- NOT PRINTED: function 51 (strings_Builder_grow)

-- NOT PRINTED: function 40 (strings_Builder_Grow)

/-- A builder at block g of W, that was made behind w0: its text. -/
def IsS98 (w0 W : World) (g : Nat) (f0 : ByteArray) : Prop := Bld 66 5 w0 W g f0
theorem IsS98.below {w0 W : World} {g : Nat} {f0 : ByteArray} {W1 : World} (h : IsS98 w0 W g f0) (hw : Below W.heap.size W W1) : IsS98 w0 W1 g f0 := Bld.below h hw
theorem IsS98.alloc {w0 W : World} {g : Nat} {f0 : ByteArray} (h : IsS98 w0 W g f0) (o : Obj) : IsS98 w0 (W.alloc o) g f0 := IsS98.below h (below_alloc (Below.refl _ _) o)
theorem IsS98.drewN {w0 W : World} {g : Nat} {f0 : ByteArray} (h : IsS98 w0 W g f0) (m : Nat) : IsS98 w0 (W.drewN m) g f0 := Bld.drewN h m
theorem IsS98.drew {w0 W : World} {g : Nat} {f0 : ByteArray} (h : IsS98 w0 W g f0) : IsS98 w0 W.drew g f0 := Bld.drew h
theorem IsS98.at_ {w0 W : World} {g : Nat} {f0 : ByteArray} {w' : World} {m : Nat} (hq : W.drewN m = w') (h : IsS98 w0 W g f0) : IsS98 w0 w' g f0 := by subst hq; exact IsS98.drewN h m
theorem IsS98.grown {w0 W : World} {g : Nat} {f0 : ByteArray} {W1 : World} {row : Option Nat} (h : IsS98 w0 W g f0) (hw : W.grownBy W1 row) (hne : BldOff 66 5 W row) : IsS98 w0 W1 g f0 := Bld.grown h hw hne
theorem IsS98.apart {w0 W : World} {g : Nat} {f0 : ByteArray} {α : Type} {d : Kd α} {e : Nat} {base : Nat} {ok : Nat → Prop} {v : Value} {xs : List α} (h : IsS98 w0 W g f0) (ho : d.R e W base ok v xs) (ht : ∀ q, q ∈ e :: d.E → q ≠ 66) : d.R e W base (fun k => ok k ∧ k ≠ g) v xs := by obtain ⟨cs, hb⟩ := Bld.blk h; exact Kd.R_types ho hb ht
theorem IsS98.own_ne {w0 W : World} {g : Nat} {f0 : ByteArray} {α : Type} {d : Kd α} {e : Nat} {base : Nat} {ok : Nat → Prop} {v : Value} {xs : List α} (h : IsS98 w0 W g f0) (ho : d.R e W base ok v xs) (ht : e ≠ 66 ∧ e ≠ 5) : BldOff 66 5 W v.ownBlock := Bld.off ho ht
theorem IsS98.lt {w0 W : World} {g : Nat} {f0 : ByteArray} (h : IsS98 w0 W g f0) : g < W.heap.size := Bld.lt h
theorem IsS98.ge {w0 W : World} {g : Nat} {f0 : ByteArray} (h : IsS98 w0 W g f0) : w0.heap.size ≤ g := Bld.ge h
theorem IsS98.fresh {w0 W : World} {g : Nat} {f0 : ByteArray} (h : IsS98 w0 W g f0) : ∀ k, W.heap.size ≤ k → k ≠ g := fun k hk e1 => by have := Bld.lt h; omega
/-! ### strings_Builder_WriteString: function 41 (by hand) -/
def strings_Builder_WriteString.f (s0_0 : ByteArray) (a1 : ByteArray) : Option (Int × Option Int × ByteArray) := if s0_0.size + a1.size ≤ 140737488355328 then some ((a1.size : Int), none, s0_0 ++ a1) else none
theorem strings_Builder_WriteString.calls (g : Nat) (s0_0 : ByteArray) (a1 : ByteArray) (r1 : Int) (r2 : Option Int) (r3 : ByteArray) (w0 w : World) (hI : IsS98 w0 w g s0_0) (hB : Below w0.heap.size w0 w) (h : strings_Builder_WriteString.f s0_0 a1 = some (r1, r2, r3)) :
    Calls Try.prog 41 #[.pointer (some ⟨g, 0, none⟩), .string a1] w fun e w' => e = .returned (.tuple #[.int .i64 r1, errW r2]) ∧ IsS98 w0 w' g r3 ∧ Below w0.heap.size w0 w' ∧ KeepE 5 w w' g := by
  unfold strings_Builder_WriteString.f at h
  by_cases h1 : s0_0.size + a1.size ≤ 140737488355328
  · rw [if_pos h1] at h
    simp only [Option.some.injEq, Prod.mk.injEq] at h
    obtain ⟨rfl, rfl, rfl⟩ := h
    have hc : Lib.strCells (s0_0 ++ a1) = Lib.strCells s0_0 ++ Lib.strCells a1 := by
      unfold Lib.strCells
      rw [ByteArray.data_append, Array.toList_append, List.map_append]
    refine (Sh.writeString w0.heap.size g (Lib.strCells s0_0) a1 w hI.2 (by rw [Lib.strCells_length]; exact h1) hI.1).mono ?_
    rintro e w1 ⟨rfl, h4, h5, h6⟩
    exact ⟨rfl, ⟨Nat.le_trans hI.1 h5.size, .inr (by rw [hc]; exact h4)⟩, hB.trans h5, h5.size, h6⟩
  · rw [if_neg h1] at h; cases h

-- NOT PRINTED: function 42 (strings_Builder_Len)

/-! ### strings_Builder_String: function 43 (by hand) -/
def strings_Builder_String.f (s0_0 : ByteArray) : Option (ByteArray × ByteArray) := some (s0_0, s0_0)
theorem strings_Builder_String.calls (g : Nat) (s0_0 : ByteArray) (r1 : ByteArray) (r2 : ByteArray) (w0 w : World) (hI : IsS98 w0 w g s0_0) (hB : Below w0.heap.size w0 w) (h : strings_Builder_String.f s0_0 = some (r1, r2)) :
    Calls Try.prog 43 #[.pointer (some ⟨g, 0, none⟩)] w fun e w' => e = .returned (.string r1) ∧ IsS98 w0 w' g r2 ∧ Below w0.heap.size w0 w' ∧ KeepE 5 w w' g := by
  unfold strings_Builder_String.f at h
  simp only [Option.some.injEq, Prod.mk.injEq] at h
  obtain ⟨rfl, rfl⟩ := h
  have hI2 := hI.2
  rw [Lib.strCells_eq] at hI2
  refine (Sh.string w0.heap.size g s0_0.data.toList w hI2 hI.1).mono ?_
  rintro e w1 ⟨rfl, h4, h5, h6⟩
  exact ⟨rfl, ⟨Nat.le_trans hI.1 h5.size, by rw [Lib.strCells_eq]; exact h4⟩, hB.trans h5, h5.size, h6⟩

/-! ### strings_Repeat: function 31 (by hand) -/
def strings_Repeat.f (a0 : ByteArray) (a1 : Int) : Option (ByteArray) := if 0 ≤ a1 then (if a1 ≤ 9223372036854775807 then (if a0.size * a1.toNat ≤ 140737488355328 then some (⟨(Lib.repeatL a0.data.toList a1.toNat).toArray⟩ : ByteArray) else none) else none) else none
theorem strings_Repeat.calls (a0 : ByteArray) (a1 : Int) (r : ByteArray) (w : World) (h : strings_Repeat.f a0 a1 = some r) :
    Calls Try.prog 31 #[.string a0, .int .i64 a1] w fun e w' => e = .returned (.string r) ∧ Below w.heap.size w w' := by
  unfold strings_Repeat.f at h
  by_cases h0 : 0 ≤ a1
  · rw [if_pos h0] at h
    by_cases h1 : a1 ≤ 9223372036854775807
    · rw [if_pos h1] at h
      by_cases h2 : a0.size * a1.toNat ≤ 140737488355328
      · rw [if_pos h2] at h
        obtain rfl := Option.some.inj h
        obtain ⟨n, rfl⟩ : ∃ n : Nat, a1 = (n : Int) := ⟨a1.toNat, by omega⟩
        exact Sh.strings_Repeat a0 n w (by omega) h2
      · rw [if_neg h2] at h
        cases h
    · rw [if_neg h1] at h
      cases h
  · rw [if_neg h0] at h
    cases h

end Go.Proofs.Ytagjfcogbnhmgaa.Q
