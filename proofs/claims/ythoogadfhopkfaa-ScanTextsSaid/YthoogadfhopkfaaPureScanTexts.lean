/- ScanTexts: rows that are deeper than the row of a head are its text; the first one that is not ends it. For every input. -/
import Derived.Test.YthoogadfhopkfaaX1
import Derived.Test.YthoogadfhopkfaaQLawScanTexts
namespace Go.Proofs.Ythoogadfhopkfaa.Pure
open Go.RowKit Go.Proofs.Ythoogadfhopkfaa.Q Go.Proofs.YthoogadfhopkfaaW.PrintWords Go.Proofs.YthoogadfhopkfaaW.PrintLast Go.Proofs.YthoogadfhopkfaaW.PrintMore Go.Proofs.Ythoogadfhopkfaa.Same
set_option linter.unusedVariables false
set_option linter.unusedSimpArgs false
theorem ext5 : ∀ I : Nat, I < 5 → bytesOf ((⟨#[32, 32, 32, 32, 32]⟩ : ByteArray).extract 0 (I : Int).toNat) = sp I := by decide +kernel
theorem ext6 : ∀ I : Nat, I < 5 → bytesOf ((⟨#[32, 32, 32, 32, 32, 32]⟩ : ByteArray).extract 0 ((I + 1 : Nat) : Int).toNat) = sp (I + 1) := by decide +kernel
theorem pcb_is : ∀ k : Nat, k < 6 → bytesOf (rdOf ByteArray.empty ([(⟨#[45, 32, 97]⟩ : ByteArray), (⟨#[91]⟩ : ByteArray), (⟨#[34, 111, 112, 101, 110]⟩ : ByteArray), (⟨#[35, 32, 110, 111, 32, 99, 111, 109, 109, 101, 110, 116]⟩ : ByteArray), (⟨#[45, 45, 45]⟩ : ByteArray), (⟨#[38, 120]⟩ : ByteArray)] : List ByteArray) (k : Int)) = pcb k := by decide +kernel
theorem pcb_len : ∀ k : Nat, k < 6 → (pcb k).length ≤ 12 := by decide +kernel
theorem rd_at (L : List S32) (i : Nat) (h : i < L.length) : rd_T32 L (i : Int) = L[i] := by
  unfold rd_T32
  rw [List.getD_eq_getElem?_getD, Int.toNat_natCast, List.getElem?_eq_getElem h]
  rfl
theorem count_go (x5 : ByteArray) (x6 : Nat) (L M : List S32) (x : S32) (hL : L = M ++ [x]) (hx0 : x.f0 = 15) (hx2 : x.f2 = (x5.size : Int)) (hl : L.length ≤ 30) (hx6 : x6 ≤ 10) : ∀ (m i c k : Nat), i + m = L.length → m + 1 ≤ k → c + cnt (L.drop i) = x6 → correctorlaw6_ScanTexts.l1 k x5 (x6 : Int) L (c : Int) (i : Int) = some true := by
  intro m
  induction m with
  | zero =>
    intro i c k h1 h2 h3
    obtain ⟨k, rfl⟩ : ∃ k', k = k' + 1 := ⟨k - 1, by omega⟩
    have hc : c = x6 := by
      rw [List.drop_eq_nil_of_le (by omega)] at h3
      simpa [cnt] using h3
    have h0 : 0 < L.length := by rw [hL]; simp
    have hlast : rd_T32 L (wrap64 ((L.length : Int) - 1)) = x := by
      rw [show wrap64 ((L.length : Int) - 1) = ((M.length : Nat) : Int) by
        have : L.length = M.length + 1 := by rw [hL]; simp
        unfold wrap64; omega, rd_at L M.length (by rw [hL]; simp)]
      simp [hL]
    have hw : wrap64 ((L.length : Int) - 1) = (L.length : Int) - 1 := by unfold wrap64; omega
    rw [correctorlaw6_ScanTexts.l1, if_neg (by omega), if_pos (by rw [hc]), if_pos (by omega), if_pos (by omega), if_pos (by omega), hlast, if_pos hx0, hx2]
    simp
  | succ m ih =>
    intro i c k h1 h2 h3
    obtain ⟨k, rfl⟩ : ∃ k', k = k' + 1 := ⟨k - 1, by omega⟩
    have hi : i < L.length := by omega
    have hd : L.drop i = L[i] :: L.drop (i + 1) := List.drop_eq_getElem_cons hi
    have hcount : cnt (L.drop i) = (if L[i].f0 = 19 then 1 else 0) + cnt (L.drop (i + 1)) := by
      rw [hd]
      unfold cnt
      rw [List.countP_cons]
      by_cases h : L[i].f0 = 19
      · simp [h]; omega
      · simp [h]
    rw [correctorlaw6_ScanTexts.l1, if_pos (by omega), if_pos (by omega), rd_at L i hi, show wrap64 ((i : Int) + 1) = ((i + 1 : Nat) : Int) by unfold wrap64; omega]
    by_cases h : L[i].f0 = 19
    · rw [if_pos h, show wrap64 ((c : Int) + 1) = ((c + 1 : Nat) : Int) by unfold wrap64; omega]
      exact ih (i + 1) (c + 1) k (by omega) (by omega) (by rw [hcount, if_pos h] at h3; omega)
    · rw [if_neg h]
      exact ih (i + 1) c k (by omega) (by omega) (by rw [hcount, if_neg h] at h3; omega)
theorem rows_law (I : Nat) (hI : I < 5) (l1 : List Int) : ∀ (m : Nat) (ks : List Nat) (x5 : ByteArray), 10 - ks.length ≤ m → ks.length ≤ 10 → ks.length ≤ l1.length → (∀ k ∈ ks, k < 6) → bytesOf x5 = (sp I ++ [107, 58, 32, 124, 10]) ++ rowsOf I ks →
    ∀ k : Nat, m + 50 ≤ k → correctorlaw6_ScanTexts.l0 k (I : Int) l1 x5 (ks.length : Int) (ks.length : Int) = some true := by
  have stop : ∀ (ks : List Nat) (x5 : ByteArray), ks.length ≤ 10 → (∀ k ∈ ks, k < 6) → bytesOf x5 = (sp I ++ [107, 58, 32, 124, 10]) ++ rowsOf I ks → ∀ k : Nat, 40 ≤ k → correctorlaw6_ScanTexts.j1 k (I : Int) x5 (ks.length : Int) = some true := by
    intro ks x5 h1 h2 h3 k hk
    obtain ⟨k, rfl⟩ : ∃ k', k = k' + 1 := ⟨k - 1, by omega⟩
    obtain ⟨L, g1, g2, g3, M, x, g4, g5, g6⟩ := texts_toks I hI ks h2 h1
    have hrl := rows_len I hI ks h2
    have e5 := ext5 I hI
    have hs : x5.size = I + 5 + (rowsOf I ks).length := by
      rw [← bytesOf_length, h3]
      simp [sp]
      omega
    have hz : ((⟨#[32, 32, 32, 32, 32]⟩ : ByteArray).extract 0 (I : Int).toNat).size = I := by
      rw [← bytesOf_length, e5]
      simp [sp]
    have z3 : (⟨#[101, 110, 100]⟩ : ByteArray).size = 3 := rfl
    have hend : bytesOf (⟨#[101, 110, 100]⟩ : ByteArray) = [101, 110, 100] := rfl
    have hall : bytesOf ((x5 ++ ((⟨#[32, 32, 32, 32, 32]⟩ : ByteArray).extract 0 (I : Int).toNat)) ++ (⟨#[101, 110, 100]⟩ : ByteArray)) = (sp I ++ [107, 58, 32, 124, 10]) ++ (rowsOf I ks ++ (sp I ++ [101, 110, 100])) := by
      rw [bof_append, bof_append, h3, e5, hend]
      simp only [List.append_assoc]
    rw [← hall] at g1
    have e1 := (show scan_Tokens.f (bytesOf ((x5 ++ ((⟨#[32, 32, 32, 32, 32]⟩ : ByteArray).extract 0 (I : Int).toNat)) ++ (⟨#[101, 110, 100]⟩ : ByteArray))) = Sc.toksO (bytesOf ((x5 ++ ((⟨#[32, 32, 32, 32, 32]⟩ : ByteArray).extract 0 (I : Int).toNat)) ++ (⟨#[101, 110, 100]⟩ : ByteArray))) from rfl).trans g1
    rw [correctorlaw6_ScanTexts.j1, if_pos (by omega), if_pos (by omega), if_pos (by omega), if_pos (by rw [ByteArray.size_append]; omega), if_pos (by rw [ByteArray.size_append, ByteArray.size_append]; omega), e1, Option.bind_some]
    exact count_go _ ks.length L M x g4 g5 (by rw [g6, ByteArray.size_append, ByteArray.size_append]; omega) g3 h1 L.length 0 0 k (by omega) (by omega) (by rw [List.drop_zero]; omega)
  intro m
  induction m with
  | zero =>
    intro ks x5 h1 h2 h3 h4 h5 k hk
    obtain ⟨k, rfl⟩ : ∃ k', k = k' + 1 := ⟨k - 1, by omega⟩
    rw [correctorlaw6_ScanTexts.l0]
    by_cases c : (ks.length : Int) < (l1.length : Int)
    · rw [if_pos c, if_neg (by omega)]
      exact stop ks x5 h2 h4 h5 k (by omega)
    · rw [if_neg c]
      exact stop ks x5 h2 h4 h5 k (by omega)
  | succ m ih =>
    intro ks x5 h1 h2 h3 h4 h5 k hk
    obtain ⟨k, rfl⟩ : ∃ k', k = k' + 1 := ⟨k - 1, by omega⟩
    rw [correctorlaw6_ScanTexts.l0]
    by_cases c : (ks.length : Int) < (l1.length : Int)
    · rw [if_pos c]
      by_cases d : (ks.length : Int) < 10
      · obtain ⟨t, ht, t0, t1⟩ := within6 (rd l1 (ks.length : Int)) 6 (by decide) (by decide)
        obtain ⟨q, rfl⟩ : ∃ q : Nat, t = q := ⟨t.toNat, by omega⟩
        have hrl := rows_len I hI ks h4
        have e6 := ext6 I hI
        have hw : wrap64 ((I : Int) + 1) = ((I + 1 : Nat) : Int) := by unfold wrap64; omega
        have hp := pcb_is q (by omega)
        have hpl := pcb_len q (by omega)
        rw [if_pos d, hw, if_pos (by omega), if_pos (by omega)]
        have hs : x5.size = I + 5 + (rowsOf I ks).length := by
          rw [← bytesOf_length, h5]
          simp [sp]
          omega
        have hz : ((⟨#[32, 32, 32, 32, 32, 32]⟩ : ByteArray).extract 0 ((I + 1 : Nat) : Int).toNat).size = I + 1 := by
          rw [← bytesOf_length, e6]
          simp [sp]
        have hzp : (rdOf ByteArray.empty ([(⟨#[45, 32, 97]⟩ : ByteArray), (⟨#[91]⟩ : ByteArray), (⟨#[34, 111, 112, 101, 110]⟩ : ByteArray), (⟨#[35, 32, 110, 111, 32, 99, 111, 109, 109, 101, 110, 116]⟩ : ByteArray), (⟨#[45, 45, 45]⟩ : ByteArray), (⟨#[38, 120]⟩ : ByteArray)] : List ByteArray) (q : Int)).size ≤ 12 := by
          rw [← bytesOf_length, hp]
          exact hpl
        rw [if_pos (by omega), Option.bind_some, if_pos (by omega), ht, Option.bind_some, if_pos t0]
        generalize hY : rdOf ByteArray.empty ([(⟨#[45, 32, 97]⟩ : ByteArray), (⟨#[91]⟩ : ByteArray), (⟨#[34, 111, 112, 101, 110]⟩ : ByteArray), (⟨#[35, 32, 110, 111, 32, 99, 111, 109, 109, 101, 110, 116]⟩ : ByteArray), (⟨#[45, 45, 45]⟩ : ByteArray), (⟨#[38, 120]⟩ : ByteArray)] : List ByteArray) (q : Int) = Y at *
        generalize hX : (⟨#[32, 32, 32, 32, 32, 32]⟩ : ByteArray).extract 0 ((I + 1 : Nat) : Int).toNat = X at *
        show (if (q : Int) < 6 then _ else _) = _
        have z1 : (⟨#[10]⟩ : ByteArray).size = 1 := rfl
        rw [if_pos t1, if_pos (by rw [ByteArray.size_append]; omega), if_pos (by rw [ByteArray.size_append, ByteArray.size_append]; omega), show wrap64 ((ks.length : Int) + 1) = (((ks ++ [q]).length : Nat) : Int) by
          rw [List.length_append]; show _ = ((ks.length + 1 : Nat) : Int); unfold wrap64; omega]
        refine ih (ks ++ [q]) (((x5 ++ X) ++ Y) ++ (⟨#[10]⟩ : ByteArray)) (by simp; omega) (by simp; omega) (by simp; omega) (fun y hy => ?_) ?_ k (by omega)
        · rcases List.mem_append.mp hy with h | h
          · exact h4 y h
          · rw [List.mem_singleton.mp h]; omega
        · rw [bof_append, bof_append, bof_append, h5, e6, hp, rowsOf_app]
          show _ ++ [10] = _
          simp only [rowsOf, row, List.append_assoc, List.append_nil]
      · rw [if_neg d]
        exact stop ks x5 h2 h4 h5 k (by omega)
    · rw [if_neg c]
      exact stop ks x5 h2 h4 h5 k (by omega)
theorem ScanTexts : correctorlaw6_ScanTexts.Pure := by
  intro a0 l1 _ _ _ _
  obtain ⟨t, ht, t0, t1⟩ := within6 a0 5 (by decide) (by decide)
  obtain ⟨I, rfl⟩ : ∃ I : Nat, t = I := ⟨t.toNat, by omega⟩
  have hI : I < 5 := by omega
  have e5 := ext5 I hI
  have hz : ((⟨#[32, 32, 32, 32, 32]⟩ : ByteArray).extract 0 (I : Int).toNat).size = I := by
    rw [← bytesOf_length, e5]
    simp [sp]
  refine ⟨100, ?_⟩
  unfold correctorlaw6_ScanTexts.f
  rw [known6, Option.bind_some, if_pos rfl, ht, Option.bind_some, if_pos t0, if_pos (by omega), if_pos (by omega)]
  refine rows_law I hI l1 10 [] _ (by simp) (by simp) (by simp) (fun k hk => by cases hk) ?_ 100 (by omega)
  rw [bof_append, e5]
  show sp I ++ [107, 58, 32, 124, 10] = (sp I ++ [107, 58, 32, 124, 10]) ++ []
  rw [List.append_nil]
end Go.Proofs.Ythoogadfhopkfaa.Pure
