/- CharsNone: a backslash with another sign behind, or with digits that lack, is no escape. For every input. -/
import Derived.Test.YtpigemgiegbblaaC2
import Derived.Test.YtpigemgiegbblaaQLawCharsNone
namespace Go.Proofs.Ytpigemgiegbblaa.Pure
open Go.RowKit Go.Proofs.Ytpigemgiegbblaa.Q Go.Proofs.YtpigemgiegbblaaW.PrintWords Go.Proofs.YtpigemgiegbblaaW.PrintLast
set_option linter.unusedVariables false
set_option linter.unusedSimpArgs false
def heads : List ByteArray := [(⟨#[120]⟩ : ByteArray), (⟨#[117]⟩ : ByteArray), (⟨#[85]⟩ : ByteArray)]
def lots : List Int := [2, 4, 8]
theorem lack_nat : ∀ t : Nat, t < 3 → ∀ m : Nat, m < 8 → (m : Int) < rd lots (t : Int) →
    esc (((⟨#[92]⟩ : ByteArray) ++ rdOf ByteArray.empty heads (t : Int)) ++ (⟨#[48, 48, 48, 48, 48, 48, 48]⟩ : ByteArray).extract 0 m) = (⟨#[]⟩, 0) := by decide +kernel
theorem heads_one : ∀ t : Nat, t < 3 → (rdOf ByteArray.empty heads (t : Int)).size = 1 := by decide +kernel
theorem lots_range : ∀ t : Nat, t < 3 → 0 < rd lots (t : Int) ∧ rd lots (t : Int) ≤ 8 := by decide +kernel
/-- The signs that begin an escape, by themselves or with digits. -/
def Good (c : Int) : Prop := c = 48 ∨ c = 116 ∨ c = 110 ∨ c = 114 ∨ c = 101 ∨ c = 34 ∨ c = 47 ∨ c = 92 ∨ c = 32 ∨ c = 120 ∨ c = 117 ∨ c = 85
instance (c : Int) : Decidable (Good c) := by unfold Good; infer_instance
theorem bt_of_nums (c : Int) (h0 : 0 ≤ c) (h1 : c ≤ 255) : bt ((⟨#[92]⟩ : ByteArray) ++ strOfNums [c]) 0 = 92 ∧ bt ((⟨#[92]⟩ : ByteArray) ++ strOfNums [c]) 1 = c ∧ ((⟨#[92]⟩ : ByteArray) ++ strOfNums [c]).size = 2 := by
  have key : ∀ n : Nat, n < 256 → bt ((⟨#[92]⟩ : ByteArray) ++ strOfNums [(n : Int)]) 0 = 92 ∧ bt ((⟨#[92]⟩ : ByteArray) ++ strOfNums [(n : Int)]) 1 = (n : Int) ∧ ((⟨#[92]⟩ : ByteArray) ++ strOfNums [(n : Int)]).size = 2 := by decide +kernel
  obtain ⟨n, rfl⟩ : ∃ n : Nat, c = (n : Int) := ⟨c.toNat, by omega⟩
  exact key n (by omega)
theorem esc_bad (c : Int) (h0 : 0 ≤ c) (h1 : c ≤ 255) (h : ¬ Good c) : esc ((⟨#[92]⟩ : ByteArray) ++ strOfNums [c]) = (⟨#[]⟩, 0) := by
  obtain ⟨b0, b1, b2⟩ := bt_of_nums c h0 h1
  unfold Good at h
  unfold esc
  rw [b0, b1, b2, if_neg (by decide)]
  have s : simp1 c = none := by
    unfold simp1
    rw [if_neg (by omega), if_neg (by omega), if_neg (by omega), if_neg (by omega), if_neg (by omega), if_neg (by omega)]
  have d : digs c = 0 := by
    unfold digs
    rw [if_neg (by omega), if_neg (by omega), if_neg (by omega)]
  rw [s, d]
  simp
theorem none_go (k : Nat) (hk : 40 < k) (a0 a1 : Int) (h0 : 0 ≤ a0) (h1 : a0 ≤ 255) (g : Bool) (hg : ¬ Good a0 → g = false → True) (hg2 : g = false → ¬ Good a0) : correctorlaw5_CharsNone.j0 k a0 a1 g = some true := by
  obtain ⟨k, rfl⟩ : ∃ m, k = m + 2 := ⟨k - 2, by omega⟩
  obtain ⟨t, ht, t0, t1⟩ := within5 a1 3 (by decide) (by decide)
  obtain ⟨t, rfl⟩ : ∃ n : Nat, t = (n : Int) := ⟨t.toNat, by omega⟩
  have hl := lots_range t (by omega)
  obtain ⟨m, hm, m0, m1⟩ := within5 (wrap64 (Int.tdiv a1 3)) (rd lots (t : Int)) hl.1 (by omega)
  obtain ⟨m, rfl⟩ : ∃ n : Nat, m = (n : Int) := ⟨m.toNat, by omega⟩
  have h1' := heads_one t (by omega)
  have hh : ([(⟨#[120]⟩ : ByteArray), (⟨#[117]⟩ : ByteArray), (⟨#[85]⟩ : ByteArray)] : List ByteArray) = heads := rfl
  have hl3 : ([2, 4, 8] : List Int) = lots := rfl
  have e1 : (heads.length : Int) = 3 := rfl
  have e2 : (lots.length : Int) = 3 := rfl
  rw [correctorlaw5_CharsNone.j0, ht]
  simp only [Option.bind_some]
  rw [hh, hl3, e1, e2, if_pos t0, if_pos t1, if_pos (by omega), if_pos t1, hm]
  simp only [Option.bind_some]
  have hz : ((⟨#[48, 48, 48, 48, 48, 48, 48]⟩ : ByteArray).extract 0 ((m : Nat) : Int).toNat).size ≤ 8 := by rw [ByteArray.size_extract]; omega
  have hz2 : ((⟨#[92]⟩ : ByteArray) ++ (rdOf ByteArray.empty heads (t : Int))).size = 2 := by rw [ByteArray.size_append, h1']; rfl
  rw [if_pos m0, if_pos (by omega), if_pos (by omega), Int.toNat_natCast, escape_eq (k + 1) (by omega), lack_nat t (by omega) m (by omega) m1]
  simp only [Option.bind_some]
  rw [if_pos (by rw [ByteArray.toList_eq]), correctorlaw5_CharsNone.j1, show ((0 : Int) != 0) = false from rfl, if_neg Bool.false_ne_true]
  simp only [Option.bind_some]
  have hn : (strOfNums [a0]).size = 1 := rfl
  rw [hn, if_pos (by decide), escape_eq k (by omega)]
  simp only [Option.bind_some]
  cases g with
  | true => rw [if_pos rfl]
  | false => rw [if_neg Bool.false_ne_true, esc_bad a0 h0 h1 (hg2 rfl)]; rfl
theorem CharsNone : correctorlaw5_CharsNone.Pure := by
  intro a0 a1 h _
  have hw : 0 ≤ a0 ∧ a0 ≤ 255 := wf_u8 h
  obtain ⟨K, hK⟩ : ∃ K : Nat, 300 < K := ⟨301, by omega⟩
  refine ⟨K, ?_⟩
  unfold correctorlaw5_CharsNone.f
  rw [known5 K (by omega)]
  simp only [Option.bind_some, if_true]
  repeat' split
  all_goals first
    | exact none_go K (by omega) a0 a1 hw.1 hw.2 true (fun _ _ => trivial) (fun h => by cases h)
    | (refine none_go K (by omega) a0 a1 hw.1 hw.2 _ (fun _ _ => trivial) (fun h => ?_)
       have h85 : a0 ≠ 85 := by intro e; rw [e] at h; cases h
       unfold Good
       omega)
end Go.Proofs.Ytpigemgiegbblaa.Pure
