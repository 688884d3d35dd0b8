/- ScanTokens: of any text the two scanners answer the same tokens. For every input. -/
import Derived.Test.YthoogadfhopkfaaPM
import Derived.Test.YthoogadfhopkfaaS1
import Derived.Test.YthoogadfhopkfaaQLawScanTokens
namespace Go.Proofs.Ythoogadfhopkfaa.Same
open Go.RowKit Go.Proofs.Ythoogadfhopkfaa.Q Go.Proofs.YthoogadfhopkfaaW.PrintWords Go.Proofs.YthoogadfhopkfaaW.PrintLast Go.Proofs.YthoogadfhopkfaaW.PrintMore Go.Proofs.Ythoogadfhopkfaa.Sc Go.Proofs.Ythoogadfhopkfaa.Rf Go.Proofs.Ythoogadfhopkfaa.Pure
set_option linter.unusedVariables false
set_option linter.unusedSimpArgs false
theorem bo_byt (s : ByteArray) : Byt (bytesOf s) := fun x hx => by
  unfold bytesOf at hx
  obtain ⟨y, _, rfl⟩ := List.mem_map.mp hx
  have := y.toNat_lt
  omega
def pieces : List ByteArray := [(⟨#[97]⟩ : ByteArray), (⟨#[98, 58, 32]⟩ : ByteArray), (⟨#[45, 32]⟩ : ByteArray), (⟨#[10]⟩ : ByteArray), (⟨#[10]⟩ : ByteArray), (⟨#[10, 32, 32]⟩ : ByteArray), (⟨#[10, 32, 32, 32, 32]⟩ : ByteArray), (⟨#[107, 101, 121, 58, 32]⟩ : ByteArray), (⟨#[91]⟩ : ByteArray), (⟨#[93]⟩ : ByteArray), (⟨#[123]⟩ : ByteArray), (⟨#[125]⟩ : ByteArray), (⟨#[44, 32]⟩ : ByteArray), (⟨#[58, 32]⟩ : ByteArray), (⟨#[39, 105, 116, 39, 39, 115, 39]⟩ : ByteArray), (⟨#[34, 120, 92, 110, 34]⟩ : ByteArray), (⟨#[35, 32, 110, 111, 116, 101, 10]⟩ : ByteArray), (⟨#[38, 110, 32]⟩ : ByteArray), (⟨#[42, 110]⟩ : ByteArray), (⟨#[33, 33, 105, 110, 116, 32]⟩ : ByteArray), (⟨#[124, 10]⟩ : ByteArray), (⟨#[62, 45, 10]⟩ : ByteArray), (⟨#[45, 45, 45]⟩ : ByteArray), (⟨#[46, 46, 46]⟩ : ByteArray), (⟨#[9]⟩ : ByteArray), (⟨#[13, 10]⟩ : ByteArray), (⟨#[32]⟩ : ByteArray), (⟨#[49]⟩ : ByteArray), (⟨#[126]⟩ : ByteArray), (⟨#[39, 111, 112, 101, 110]⟩ : ByteArray), (⟨#[34, 92, 113, 34]⟩ : ByteArray), (⟨#[45]⟩ : ByteArray), (⟨#[58]⟩ : ByteArray), (⟨#[116, 101, 120, 116, 32, 111, 102, 32, 119, 111, 114, 100, 115]⟩ : ByteArray), (⟨#[10, 45, 32]⟩ : ByteArray), (⟨#[10, 107, 58, 32]⟩ : ByteArray), (⟨#[32, 32]⟩ : ByteArray), (⟨#[35, 32, 111, 102, 102]⟩ : ByteArray), (⟨#[44]⟩ : ByteArray), (⟨#[124, 43]⟩ : ByteArray), (⟨#[10, 10]⟩ : ByteArray)]
theorem pieces_size : ∀ k : Nat, k < 41 → (rdOf ByteArray.empty pieces (k : Int)).size ≤ 13 := by decide +kernel
theorem piece_is (n : Int) : ∃ t, correctorlaw6_Piece.f n = some t ∧ t.size ≤ 13 := by
  obtain ⟨r, hr, h0, h1⟩ := within6 n 41 (by decide) (by decide)
  obtain ⟨k, rfl⟩ : ∃ k : Nat, r = k := ⟨r.toNat, by omega⟩
  refine ⟨_, ?_, pieces_size k (by omega)⟩
  show (correctorlaw6_within.f n 41).bind (fun t105 => (if 0 ≤ t105 then (if t105 < 41 then (some (rdOf ByteArray.empty pieces t105)) else (none)) else (none))) = _
  rw [hr, Option.bind_some, if_pos h0, if_pos h1]
theorem text_go (ns raw : List Int) (hB : Byt raw) : ∀ (m i : Nat) (x : List Int), 61 - i ≤ m → Byt x → x.length ≤ 43 * i → i ≤ 60 → i ≤ ns.length → ∃ t, Byt t ∧ t.length ≤ 400 ∧ ∀ k : Nat, 2 * m + 2 ≤ k → correctorlaw6_Text.l0 k ns raw x (i : Int) = some t := by
  intro m
  induction m with
  | zero => intro i x h1 h2 h3 h4 h5; omega
  | succ m ih =>
    intro i x h1 h2 h3 h4 h5
    have stop : ∀ k : Nat, 0 < k → correctorlaw6_Text.j1 k ns raw x (i : Int) false = some (x.take (mn (x.length : Int) 400).toNat) := by
      intro k hk
      obtain ⟨k, rfl⟩ : ∃ k', k = k' + 1 := ⟨k - 1, by omega⟩
      have hm : 0 ≤ mn (x.length : Int) 400 ∧ mn (x.length : Int) 400 ≤ (x.length : Int) := by unfold mn; split <;> omega
      simp only [correctorlaw6_Text.j1]
      rw [if_neg (by decide), if_pos hm.1, if_pos hm.2]
    have stopped : (∀ k : Nat, 0 < k → correctorlaw6_Text.l0 (k + 1) ns raw x (i : Int) = correctorlaw6_Text.j1 k ns raw x (i : Int) false) → ∃ t, Byt t ∧ t.length ≤ 400 ∧ ∀ k : Nat, 2 * (m + 1) + 2 ≤ k → correctorlaw6_Text.l0 k ns raw x (i : Int) = some t := by
      intro hs
      refine ⟨x.take (mn (x.length : Int) 400).toNat, h2.take _, ?_, fun k hk => ?_⟩
      · rw [List.length_take]
        unfold mn
        split <;> omega
      · obtain ⟨k, rfl⟩ : ∃ k', k = k' + 1 := ⟨k - 1, by omega⟩
        rw [hs k (by omega), stop k (by omega)]
    by_cases c : (i : Int) < (ns.length : Int)
    · by_cases c2 : (i : Int) < 60
      · obtain ⟨p, hp, hps⟩ := piece_is (rd ns (i : Int))
        have hmr : 0 ≤ mn (raw.length : Int) 30 ∧ mn (raw.length : Int) 30 ≤ (raw.length : Int) ∧ mn (raw.length : Int) 30 ≤ 30 := by unfold mn; split <;> omega
        have hwi : wrap64 ((i : Int) + 1) = ((i + 1 : Nat) : Int) := by unfold wrap64; omega
        by_cases c3 : (i : Int) = wrap64 ((ns.length : Int) / 2)
        · obtain ⟨t, g1, g2, g3⟩ := ih (i + 1) ((x ++ raw.take (mn (raw.length : Int) 30).toNat) ++ bytesOf p) (by omega) ((h2.append (hB.take _)).append (bo_byt p)) (by
            rw [List.length_append, List.length_append, List.length_take, bytesOf_length]; omega) (by omega) (by omega)
          refine ⟨t, g1, g2, fun k hk => ?_⟩
          obtain ⟨k, rfl⟩ : ∃ k', k = k' + 2 := ⟨k - 2, by omega⟩
          rw [← g3 k (by omega)]
          rw [correctorlaw6_Text.l0, if_pos c, decide_eq_true c2, correctorlaw6_Text.j1, if_pos rfl, if_pos c3, if_pos hmr.1, if_pos hmr.2.1, if_pos (by rw [List.length_take]; omega), Option.bind_some, if_pos (by omega), if_pos c, hp, Option.bind_some, if_pos (by rw [List.length_append, List.length_take]; omega), hwi]
        · obtain ⟨t, g1, g2, g3⟩ := ih (i + 1) (x ++ bytesOf p) (by omega) (h2.append (bo_byt p)) (by rw [List.length_append, bytesOf_length]; omega) (by omega) (by omega)
          refine ⟨t, g1, g2, fun k hk => ?_⟩
          obtain ⟨k, rfl⟩ : ∃ k', k = k' + 2 := ⟨k - 2, by omega⟩
          rw [← g3 k (by omega)]
          rw [correctorlaw6_Text.l0, if_pos c, decide_eq_true c2, correctorlaw6_Text.j1, if_pos rfl, if_neg c3, if_pos (by omega), if_pos c, hp, Option.bind_some, if_pos (by omega), hwi]
      · refine stopped fun k hk => ?_
        rw [correctorlaw6_Text.l0, if_pos c, decide_eq_false c2]
    · refine stopped fun k hk => ?_
      rw [correctorlaw6_Text.l0, if_neg c]
theorem text_is (ns raw : List Int) (hB : Byt raw) : ∃ t, Byt t ∧ t.length ≤ 400 ∧ ∀ k : Nat, 124 ≤ k → correctorlaw6_Text.f k ns raw = some t := by
  obtain ⟨t, h1, h2, h3⟩ := text_go ns raw hB 61 0 [] (by omega) Byt.nil (by simp) (by omega) (by omega)
  exact ⟨t, h1, h2, fun k hk => h3 k (by omega)⟩
theorem same_self (L : List S32) (hL : L.length ≤ 1000) (k : Nat) (hk : 1001 ≤ k) : correctorlaw6_Same.f k L L = some true := by
  unfold correctorlaw6_Same.f
  rw [if_pos rfl]
  have key : ∀ (m i k : Nat), L.length - i < m → m ≤ k → i ≤ L.length → correctorlaw6_Same.l0 k L L (i : Int) = some true := by
    intro m
    induction m with
    | zero => intro i k h; omega
    | succ m ih =>
      intro i k h1 h2 h3
      obtain ⟨k, rfl⟩ : ∃ k', k = k' + 1 := ⟨k - 1, by omega⟩
      rw [correctorlaw6_Same.l0]
      by_cases c : (i : Int) < (L.length : Int)
      · rw [if_pos c, if_pos (by omega), if_pos c, if_neg (by simp), show wrap64 ((i : Int) + 1) = ((i + 1 : Nat) : Int) by unfold wrap64; omega]
        exact ih (i + 1) k (by omega) (by omega) (by omega)
      · rw [if_neg c]
  exact key 1001 0 k (by omega) hk (by omega)
end Go.Proofs.Ythoogadfhopkfaa.Same
namespace Go.Proofs.Ythoogadfhopkfaa.Pure
open Go.RowKit Go.Proofs.Ythoogadfhopkfaa.Q Go.Proofs.YthoogadfhopkfaaW.PrintWords Go.Proofs.YthoogadfhopkfaaW.PrintLast Go.Proofs.YthoogadfhopkfaaW.PrintMore Go.Proofs.Ythoogadfhopkfaa.Same
theorem ScanTokens : correctorlaw6_ScanTokens.Pure := by
  intro l0 l1 _ _ _ _ _ hw
  have hB : Byt l1 := Byt.of_wf hw
  refine ⟨2000, ?_⟩
  unfold correctorlaw6_ScanTokens.f
  rw [known6, Option.bind_some, if_pos rfl]
  by_cases c : (l1.length : Int) > 200
  · rw [if_pos c]
  · obtain ⟨t, h1, h2, h3⟩ := text_is l0 l1 hB
    obtain ⟨L, g1, g2, g3⟩ := toks_same t h1
    obtain ⟨M, f1, f2, f3⟩ := toks_same l1 hB
    have e1 : scan_Tokens.f t = some L := g1
    have e2 : correctorref6_Tokens.f t = some L := g2
    have e3 : scan_Tokens.f l1 = some M := f1
    have e4 : correctorref6_Tokens.f l1 = some M := f2
    rw [if_neg c, h3 2000 (by omega), Option.bind_some, Option.bind_some, if_pos (by simp; omega), List.nil_append, e1, Option.bind_some, e2, Option.bind_some, same_self L (by omega) 2000 (by omega), Option.bind_some, if_pos rfl, e3, Option.bind_some, e4, Option.bind_some, same_self M (by omega) 2000 (by omega), Option.bind_some]
end Go.Proofs.Ythoogadfhopkfaa.Pure
