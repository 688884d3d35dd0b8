/- Proved here, in the forms of the print's contracts: what each Go function answers, and the rows of the laws over it; by a program and by hand. -/
import Derived.Test.YtabdoommjdgogaaQ0
import Derived.Test.YtabdoommjdgogaaQstringslite
namespace Go.Proofs.Ytabdoommjdgogaa.Q
open Go.RowKit Go.Proofs.YtabdoommjdgogaaW.PrintWords Go.Proofs.YtabdoommjdgogaaW.PrintLast Go.Proofs.YtabdoommjdgogaaW.PrintMore
attribute [local go_sem] max2_int min2_int max_two min_two max_three min_three max_four min_four   -- for this text's walks alone
set_option linter.unusedVariables false
set_option linter.unusedSimpArgs false

-- NOT PRINTED: function 31 (strings_Builder_copyCheck)

/-- A builder at block g of W, that was made behind w0: its text. -/
def IsS102 (w0 W : World) (g : Nat) (f0 : ByteArray) : Prop := Bld 50 5 w0 W g f0
theorem IsS102.below {w0 W : World} {g : Nat} {f0 : ByteArray} {W1 : World} (h : IsS102 w0 W g f0) (hw : Below W.heap.size W W1) : IsS102 w0 W1 g f0 := Bld.below h hw
theorem IsS102.alloc {w0 W : World} {g : Nat} {f0 : ByteArray} (h : IsS102 w0 W g f0) (o : Obj) : IsS102 w0 (W.alloc o) g f0 := IsS102.below h (below_alloc (Below.refl _ _) o)
theorem IsS102.drewN {w0 W : World} {g : Nat} {f0 : ByteArray} (h : IsS102 w0 W g f0) (m : Nat) : IsS102 w0 (W.drewN m) g f0 := Bld.drewN h m
theorem IsS102.drew {w0 W : World} {g : Nat} {f0 : ByteArray} (h : IsS102 w0 W g f0) : IsS102 w0 W.drew g f0 := Bld.drew h
theorem IsS102.at_ {w0 W : World} {g : Nat} {f0 : ByteArray} {w' : World} {m : Nat} (hq : W.drewN m = w') (h : IsS102 w0 W g f0) : IsS102 w0 w' g f0 := by subst hq; exact IsS102.drewN h m
theorem IsS102.grown {w0 W : World} {g : Nat} {f0 : ByteArray} {W1 : World} {row : Option Nat} (h : IsS102 w0 W g f0) (hw : W.grownBy W1 row) (hne : BldOff 50 5 W row) : IsS102 w0 W1 g f0 := Bld.grown h hw hne
theorem IsS102.apart {w0 W : World} {g : Nat} {f0 : ByteArray} {α : Type} {d : Kd α} {e : Nat} {base : Nat} {ok : Nat → Prop} {v : Value} {xs : List α} (h : IsS102 w0 W g f0) (ho : d.R e W base ok v xs) (ht : ∀ q, q ∈ e :: d.E → q ≠ 50) : d.R e W base (fun k => ok k ∧ k ≠ g) v xs := by obtain ⟨cs, hb⟩ := Bld.blk h; exact Kd.R_types ho hb ht
theorem IsS102.own_ne {w0 W : World} {g : Nat} {f0 : ByteArray} {α : Type} {d : Kd α} {e : Nat} {base : Nat} {ok : Nat → Prop} {v : Value} {xs : List α} (h : IsS102 w0 W g f0) (ho : d.R e W base ok v xs) (ht : e ≠ 50 ∧ e ≠ 5) : BldOff 50 5 W v.ownBlock := Bld.off ho ht
theorem IsS102.lt {w0 W : World} {g : Nat} {f0 : ByteArray} (h : IsS102 w0 W g f0) : g < W.heap.size := Bld.lt h
theorem IsS102.ge {w0 W : World} {g : Nat} {f0 : ByteArray} (h : IsS102 w0 W g f0) : w0.heap.size ≤ g := Bld.ge h
theorem IsS102.fresh {w0 W : World} {g : Nat} {f0 : ByteArray} (h : IsS102 w0 W g f0) : ∀ k, W.heap.size ≤ k → k ≠ g := fun k hk e1 => by have := Bld.lt h; omega
/-! ### strings_Builder_WriteByte: function 20 (by hand) -/
def strings_Builder_WriteByte.f (s0_0 : ByteArray) (a1 : Int) : Option (Option Int × ByteArray) := if s0_0.size + 1 ≤ 140737488355328 then (if 0 ≤ a1 then (if a1 ≤ 255 then some (none, s0_0 ++ strOfNums [a1]) else none) else none) else none
theorem strings_Builder_WriteByte.calls (g : Nat) (s0_0 : ByteArray) (a1 : Int) (r1 : Option Int) (r2 : ByteArray) (w0 w : World) (hI : IsS102 w0 w g s0_0) (hB : Below w0.heap.size w0 w) (h : strings_Builder_WriteByte.f s0_0 a1 = some (r1, r2)) :
    Calls Try.prog 20 #[.pointer (some ⟨g, 0, none⟩), .int .u8 a1] w fun e w' => e = .returned (errW r1) ∧ IsS102 w0 w' g r2 ∧ Below w0.heap.size w0 w' ∧ KeepE 5 w w' g := by
  unfold strings_Builder_WriteByte.f at h
  by_cases h1 : s0_0.size + 1 ≤ 140737488355328
  · rw [if_pos h1] at h
    by_cases h2 : 0 ≤ a1
    · rw [if_pos h2] at h
      by_cases h3 : a1 ≤ 255
      · rw [if_pos h3] at h
        simp only [Option.some.injEq, Prod.mk.injEq] at h
        obtain ⟨rfl, rfl⟩ := h
        have hc : Lib.strCells (s0_0 ++ strOfNums [a1]) = Lib.strCells s0_0 ++ [.int .u8 a1] := by
          unfold Lib.strCells strOfNums
          rw [ByteArray.data_append, Array.toList_append, List.map_append]
          congr 1
          simp
          omega
        refine (Sh.writeByte w0.heap.size g (Lib.strCells s0_0) a1 w hI.2 (by rw [Lib.strCells_length]; exact h1) hI.1).mono ?_
        rintro e w1 ⟨rfl, h4, h5, h6⟩
        exact ⟨rfl, ⟨Nat.le_trans hI.1 h5.size, .inr (by rw [hc]; exact h4)⟩, hB.trans h5, h5.size, h6⟩
      · rw [if_neg h3] at h; cases h
    · rw [if_neg h2] at h; cases h
  · rw [if_neg h1] at h; cases h

/-! ### strings_Builder_String: function 23 (by hand) -/
def strings_Builder_String.f (s0_0 : ByteArray) : Option (ByteArray × ByteArray) := some (s0_0, s0_0)
theorem strings_Builder_String.calls (g : Nat) (s0_0 : ByteArray) (r1 : ByteArray) (r2 : ByteArray) (w0 w : World) (hI : IsS102 w0 w g s0_0) (hB : Below w0.heap.size w0 w) (h : strings_Builder_String.f s0_0 = some (r1, r2)) :
    Calls Try.prog 23 #[.pointer (some ⟨g, 0, none⟩)] w fun e w' => e = .returned (.string r1) ∧ IsS102 w0 w' g r2 ∧ Below w0.heap.size w0 w' ∧ KeepE 5 w w' g := by
  unfold strings_Builder_String.f at h
  simp only [Option.some.injEq, Prod.mk.injEq] at h
  obtain ⟨rfl, rfl⟩ := h
  have hI2 := hI.2
  rw [Lib.strCells_eq] at hI2
  refine (Sh.string w0.heap.size g s0_0.data.toList w hI2 hI.1).mono ?_
  rintro e w1 ⟨rfl, h4, h5, h6⟩
  exact ⟨rfl, ⟨Nat.le_trans hI.1 h5.size, by rw [Lib.strCells_eq]; exact h4⟩, hB.trans h5, h5.size, h6⟩

/-! ### strings_Builder_WriteString: function 21 (by hand) -/
def strings_Builder_WriteString.f (s0_0 : ByteArray) (a1 : ByteArray) : Option (Int × Option Int × ByteArray) := if s0_0.size + a1.size ≤ 140737488355328 then some ((a1.size : Int), none, s0_0 ++ a1) else none
theorem strings_Builder_WriteString.calls (g : Nat) (s0_0 : ByteArray) (a1 : ByteArray) (r1 : Int) (r2 : Option Int) (r3 : ByteArray) (w0 w : World) (hI : IsS102 w0 w g s0_0) (hB : Below w0.heap.size w0 w) (h : strings_Builder_WriteString.f s0_0 a1 = some (r1, r2, r3)) :
    Calls Try.prog 21 #[.pointer (some ⟨g, 0, none⟩), .string a1] w fun e w' => e = .returned (.tuple #[.int .i64 r1, errW r2]) ∧ IsS102 w0 w' g r3 ∧ Below w0.heap.size w0 w' ∧ KeepE 5 w w' g := by
  unfold strings_Builder_WriteString.f at h
  by_cases h1 : s0_0.size + a1.size ≤ 140737488355328
  · rw [if_pos h1] at h
    simp only [Option.some.injEq, Prod.mk.injEq] at h
    obtain ⟨rfl, rfl, rfl⟩ := h
    have hc : Lib.strCells (s0_0 ++ a1) = Lib.strCells s0_0 ++ Lib.strCells a1 := by
      unfold Lib.strCells
      rw [ByteArray.data_append, Array.toList_append, List.map_append]
    refine (Sh.writeString w0.heap.size g (Lib.strCells s0_0) a1 w hI.2 (by rw [Lib.strCells_length]; exact h1) hI.1).mono ?_
    rintro e w1 ⟨rfl, h4, h5, h6⟩
    exact ⟨rfl, ⟨Nat.le_trans hI.1 h5.size, .inr (by rw [hc]; exact h4)⟩, hB.trans h5, h5.size, h6⟩
  · rw [if_neg h1] at h; cases h

/-! ### strings_IndexByte: function 78 -/
def strings_IndexByte.f (a0 : ByteArray) (a1 : Int) : Option (Int) := (stringslite_IndexByte.f a0 a1).bind fun t110 => (some t110)
set_option maxHeartbeats 8000000 in
set_option maxRecDepth 100000 in
theorem strings_IndexByte.calls (a0 : ByteArray) (a1 : Int) (r : Int) (w : World) (h : strings_IndexByte.f a0 a1 = some r) :
    Calls Try.prog 78 #[.string a0, .int .u8 a1] w fun e w' => e = .returned (.int .i64 r) ∧ Drawn0 w w' := by
  have H : ((stringslite_IndexByte.f a0 a1).bind fun t110 => (some t110)) = some r := h
  clear h
  replace H := Option.bind_eq_some_iff.mp H
  obtain ⟨t110, A30, H⟩ := H
  replace H : (some t110) = some r := H
  have A3 := Aside0.mk A30
  clear A30
  obtain rfl := Option.some.inj H
  go_enter Try.func78, Try.ntmps78
  go_wp2_with (first | ((with_reducible refine gate_callee (f := 79) rfl ?_); refine goesL_ (some 7) rfl rfl Try.func79 (by kernel_rfl) rfl #[.string a0, .int .u8 a1] rfl (by (try simp only [List.map_toArray, List.map_cons, List.map_nil]); first | done | rfl | (simp only [List.length_drop, List.length_take]; rfl) | (simp only [ByteArray.size_extract, Nat.min_self]; done) | (simp only [ByteArray.size_extract, Nat.min_self]; rfl)) ?_; (with_reducible refine (stringslite_IndexByte.calls a0 a1 t110 _ A3.out).mono ?_); rintro e w' ⟨rfl, ⟨nd, rfl⟩⟩; refine ⟨_, rfl, ?_⟩))
  go_ret
  exact ⟨by first | rfl | (simp; done) | (simp [*]; done), by repeat (first | exact Drawn0.refl _ | apply Drawn0.step)⟩

end Go.Proofs.Ytabdoommjdgogaa.Q
