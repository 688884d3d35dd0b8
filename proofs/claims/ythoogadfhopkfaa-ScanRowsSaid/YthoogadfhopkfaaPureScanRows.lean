/- ScanRows: what stands on rows of no brackets and no block texts is read row by row: alone as among others. For every input. -/
import Derived.Test.YthoogadfhopkfaaY3
import Derived.Test.YthoogadfhopkfaaQLawScanRows
namespace Go.Proofs.Ythoogadfhopkfaa.Pure
open Go.RowKit Go.Proofs.Ythoogadfhopkfaa.Q Go.Proofs.YthoogadfhopkfaaW.PrintWords Go.Proofs.YthoogadfhopkfaaW.PrintLast Go.Proofs.YthoogadfhopkfaaW.PrintMore Go.Proofs.Ythoogadfhopkfaa.Same
set_option linter.unusedVariables false
set_option linter.unusedSimpArgs false
def qps : List ByteArray := [(⟨#[97]⟩ : ByteArray), (⟨#[98, 58, 32]⟩ : ByteArray), (⟨#[45, 32]⟩ : ByteArray), (⟨#[10]⟩ : ByteArray), (⟨#[32, 32]⟩ : ByteArray), (⟨#[39, 120, 39]⟩ : ByteArray), (⟨#[35, 32, 99]⟩ : ByteArray), (⟨#[32]⟩ : ByteArray), (⟨#[107, 101, 121]⟩ : ByteArray), (⟨#[58]⟩ : ByteArray), (⟨#[45]⟩ : ByteArray), (⟨#[38, 97, 32]⟩ : ByteArray), (⟨#[42, 98, 32]⟩ : ByteArray), (⟨#[33, 116, 32]⟩ : ByteArray)]
instance qbDec (c : Int) : Decidable (qb c) := by unfold qb; infer_instance
theorem qps_are : ∀ k : Nat, k < 14 → (bytesOf (rdOf ByteArray.empty qps (k : Int))).all (fun x => decide (qb x)) = true ∧ (rdOf ByteArray.empty qps (k : Int)).size ≤ 3 := by decide +kernel
theorem quiet_go (l : List Int) : ∀ (m i : Nat) (x : ByteArray), 25 - i ≤ m → i ≤ 25 → Qt (bytesOf x) → x.size ≤ 3 * i → ∃ t, Qt (bytesOf t) ∧ t.size ≤ 75 ∧ ∀ k : Nat, m + 1 ≤ k → correctorlaw6_quiet.l0 k l qps x (i : Int) = some t := by
  intro m
  induction m with
  | zero =>
    intro i x h1 h2 h3 h4
    refine ⟨x, h3, by omega, fun k hk => ?_⟩
    obtain ⟨k, rfl⟩ : ∃ k', k = k' + 1 := ⟨k - 1, by omega⟩
    rw [correctorlaw6_quiet.l0]
    by_cases c : (i : Int) < (l.length : Int)
    · rw [if_pos c, if_neg (by omega)]
    · rw [if_neg c]
  | succ m ih =>
    intro i x h1 h2 h3 h4
    by_cases c : (i : Int) < (l.length : Int)
    · by_cases d : (i : Int) < 25
      · obtain ⟨t, ht, t0, t1⟩ := within6 (rd l (i : Int)) 14 (by decide) (by decide)
        obtain ⟨q, rfl⟩ : ∃ q : Nat, t = q := ⟨t.toNat, by omega⟩
        obtain ⟨hq, hz⟩ := qps_are q (by omega)
        have hq' : Qt (bytesOf (rdOf ByteArray.empty qps (q : Int))) := fun y hy => by
          have := List.all_eq_true.mp hq y hy
          simpa using this
        obtain ⟨t, g1, g2, g3⟩ := ih (i + 1) (x ++ rdOf ByteArray.empty qps (q : Int)) (by omega) (by omega) (by rw [bof_append]; exact h3.app hq') (by rw [ByteArray.size_append]; omega)
        refine ⟨t, g1, g2, fun k hk => ?_⟩
        obtain ⟨k, rfl⟩ : ∃ k', k = k' + 1 := ⟨k - 1, by omega⟩
        rw [correctorlaw6_quiet.l0, if_pos c, if_pos d, if_pos (by omega)]
        show (correctorlaw6_within.f (rd l (i : Int)) 14).bind _ = _
        rw [ht, Option.bind_some, if_pos t0]
        show (if (q : Int) < 14 then _ else _) = _
        rw [if_pos t1, if_pos (by omega), show wrap64 ((i : Int) + 1) = ((i + 1 : Nat) : Int) by unfold wrap64; omega]
        exact g3 k (by omega)
      · refine ⟨x, h3, by omega, fun k hk => ?_⟩
        obtain ⟨k, rfl⟩ : ∃ k', k = k' + 1 := ⟨k - 1, by omega⟩
        rw [correctorlaw6_quiet.l0, if_pos c, if_neg d]
    · refine ⟨x, h3, by omega, fun k hk => ?_⟩
      obtain ⟨k, rfl⟩ : ∃ k', k = k' + 1 := ⟨k - 1, by omega⟩
      rw [correctorlaw6_quiet.l0, if_neg c]
theorem quiet_is (l : List Int) : ∃ t, Qt (bytesOf t) ∧ t.size ≤ 75 ∧ ∀ k : Nat, 26 ≤ k → correctorlaw6_quiet.f k l = some t := by
  obtain ⟨t, h1, h2, h3⟩ := quiet_go l 25 0 (⟨#[]⟩ : ByteArray) (by omega) (by omega) (fun x hx => by cases hx) (by decide)
  exact ⟨t, h1, h2, fun k hk => h3 k (by omega)⟩
theorem same_rows (L : List S32) (hL : L.length ≤ 1000) (k : Nat) (hk : 1001 ≤ k) : correctorlaw6_Same.f k L L = some true := by
  unfold correctorlaw6_Same.f
  rw [if_pos rfl]
  have key : ∀ (m i k : Nat), L.length - i < m → m ≤ k → i ≤ L.length → correctorlaw6_Same.l0 k L L (i : Int) = some true := by
    intro m
    induction m with
    | zero => intro i k h; omega
    | succ m ih =>
      intro i k h1 h2 h3
      obtain ⟨k, rfl⟩ : ∃ k', k = k' + 1 := ⟨k - 1, by omega⟩
      rw [correctorlaw6_Same.l0]
      by_cases c : (i : Int) < (L.length : Int)
      · rw [if_pos c, if_pos (by omega), if_pos c, if_neg (by simp), show wrap64 ((i : Int) + 1) = ((i + 1 : Nat) : Int) by unfold wrap64; omega]
        exact ih (i + 1) k (by omega) (by omega) (by omega)
      · rw [if_neg c]
  exact key 1001 0 k (by omega) hk (by omega)
theorem rd_tok (L : List S32) (i : Nat) (h : i < L.length) : rd_T32 L (i : Int) = L[i] := by
  unfold rd_T32
  rw [List.getD_eq_getElem?_getD, Int.toNat_natCast, List.getElem?_eq_getElem h]
  rfl
theorem rows_loop (x5 : ByteArray) (P Q : List S32) (n : Int) (hs : x5.size ≤ 100) (hP : P.length ≤ 500) (hQ : Q.length ≤ 500) (hb : ∀ x ∈ Q, 0 ≤ x.f1 ∧ x.f1 ≤ 1000 ∧ 0 ≤ x.f2 ∧ x.f2 ≤ 1000) :
    ∀ (m i k : Nat), Q.length - i ≤ m → i ≤ Q.length → m + 1100 ≤ k → correctorlaw6_ScanRows.l0 k x5 P Q (P ++ Q.map (shT ((x5.size : Int) + 1))) (i : Int) = some true := by
  intro m
  induction m with
  | zero =>
    intro i k h1 h2 h3
    obtain ⟨k, rfl⟩ : ∃ k', k = k' + 1 := ⟨k - 1, by omega⟩
    rw [correctorlaw6_ScanRows.l0, if_neg (by omega), if_pos (by omega), if_pos (by simp; omega), show (P ++ Q.map (shT ((x5.size : Int) + 1))).take ((P.length : Int)).toNat = P by rw [Int.toNat_natCast]; simp, same_rows P (by omega) k (by omega), Option.bind_some]
  | succ m ih =>
    intro i k h1 h2 h3
    by_cases c : i < Q.length
    · obtain ⟨k, rfl⟩ : ∃ k', k = k' + 1 := ⟨k - 1, by omega⟩
      have hw : wrap64 ((P.length : Int) + (i : Int)) = ((P.length + i : Nat) : Int) := by unfold wrap64; omega
      have hlen : (P ++ Q.map (shT ((x5.size : Int) + 1))).length = P.length + Q.length := by simp
      have hr : rd_T32 (P ++ Q.map (shT ((x5.size : Int) + 1))) ((P.length + i : Nat) : Int) = shT ((x5.size : Int) + 1) Q[i] := by
        rw [rd_tok _ _ (by omega), List.getElem_append_right (by omega), List.getElem_map]
        congr 2
        omega
      obtain ⟨b1, b2, b3, b4⟩ := hb Q[i] (List.getElem_mem c)
      have w1 : wrap64 (wrap64 (Q[i].f1 + (x5.size : Int)) + 1) = Q[i].f1 + ((x5.size : Int) + 1) := by unfold wrap64; omega
      have w2 : wrap64 (wrap64 (Q[i].f2 + (x5.size : Int)) + 1) = Q[i].f2 + ((x5.size : Int) + 1) := by unfold wrap64; omega
      rw [correctorlaw6_ScanRows.l0, if_pos (by omega), hw, if_pos (by omega), if_pos (by omega), if_pos (by omega), hr, rd_tok Q i c, w1, w2]
      show (if Q[i].f0 = Q[i].f0 then _ else _) = _
      rw [if_pos rfl]
      show (if Q[i].f1 + ((x5.size : Int) + 1) = _ then _ else _) = _
      rw [if_pos rfl]
      show (if Q[i].f2 + ((x5.size : Int) + 1) = _ then _ else _) = _
      rw [if_pos rfl, show wrap64 ((i : Int) + 1) = ((i + 1 : Nat) : Int) by unfold wrap64; omega]
      exact ih (i + 1) k (by omega) (by omega) (by omega)
    · obtain ⟨k, rfl⟩ : ∃ k', k = k' + 1 := ⟨k - 1, by omega⟩
      rw [correctorlaw6_ScanRows.l0, if_neg (by omega), if_pos (by omega), if_pos (by simp; omega), show (P ++ Q.map (shT ((x5.size : Int) + 1))).take ((P.length : Int)).toNat = P by rw [Int.toNat_natCast]; simp, same_rows P (by omega) k (by omega), Option.bind_some]
theorem ScanRows : correctorlaw6_ScanRows.Pure := by
  intro l0 l1 _ _ _ _ _ _
  obtain ⟨x, x1, x2, x3⟩ := quiet_is l0
  obtain ⟨y, y1, y2, y3⟩ := quiet_is l1
  refine ⟨2000, ?_⟩
  unfold correctorlaw6_ScanRows.f
  rw [known6, Option.bind_some, if_pos rfl, x3 2000 (by omega), Option.bind_some, y3 2000 (by omega), Option.bind_some]
  have z1 : (⟨#[10]⟩ : ByteArray).size = 1 := rfl
  have h10 : bytesOf (⟨#[10]⟩ : ByteArray) = [10] := rfl
  have hx := bytesOf_length x
  have hy := bytesOf_length y
  have hu : Qt (bytesOf (x ++ (⟨#[10]⟩ : ByteArray))) := by
    rw [bof_append, h10]
    exact x1.app fun c hc => by rw [List.mem_singleton.mp hc]; decide
  have hul : (bytesOf (x ++ (⟨#[10]⟩ : ByteArray))).length = x.size + 1 := by rw [bytesOf_length, ByteArray.size_append]; rfl
  have hlast : rd (bytesOf (x ++ (⟨#[10]⟩ : ByteArray))) (((bytesOf (x ++ (⟨#[10]⟩ : ByteArray))).length : Int) - 1) = 10 := by
    rw [hul, bof_append, h10, rd_app_r' (n := (x.size : Int)) (by omega) (by omega), show ((x.size + 1 : Nat) : Int) - 1 - (x.size : Int) = 0 by omega]
    rfl
  obtain ⟨P, Q, p1, p2, p3, p4, p5, p6⟩ := both_toks hu y1 (by omega) hlast (by omega)
  rw [← bof_append, hul, show ((x.size + 1 : Nat) : Int) = (x.size : Int) + 1 by omega] at p3
  have e1 : scan_Tokens.f (bytesOf (x ++ (⟨#[10]⟩ : ByteArray))) = some P := p1
  have e2 : scan_Tokens.f (bytesOf y) = some Q := p2
  have e3 : scan_Tokens.f (bytesOf ((x ++ (⟨#[10]⟩ : ByteArray)) ++ y)) = some (P ++ Q.map (shT ((x.size : Int) + 1))) := p3
  rw [if_pos (by omega), if_pos (by rw [ByteArray.size_append]; omega), e1, Option.bind_some, if_pos (by omega), e2, Option.bind_some, if_pos (by rw [ByteArray.size_append]; omega), if_pos (by rw [ByteArray.size_append, ByteArray.size_append]; omega), e3, Option.bind_some, if_pos (by simp; unfold wrap64; omega)]
  exact rows_loop x P Q 0 (by omega) (by omega) (by omega) (fun t ht => by have := p6 t ht; omega) Q.length 0 2000 (by omega) (by omega) (by omega)
end Go.Proofs.Ythoogadfhopkfaa.Pure
