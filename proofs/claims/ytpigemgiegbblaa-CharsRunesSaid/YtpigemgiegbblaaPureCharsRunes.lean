/- CharsRunes: each sign has escapes of four and of eight digits, that are read as it. For every input. -/
import Derived.Test.YtpigemgiegbblaaC2
import Derived.Test.YtpigemgiegbblaaQLawCharsRunes
namespace Go.Proofs.Ytpigemgiegbblaa.Pure
open Go.RowKit Go.Proofs.Ytpigemgiegbblaa.Q Go.Proofs.YtpigemgiegbblaaW.PrintWords Go.Proofs.YtpigemgiegbblaaW.PrintLast Go.Proofs.YtpigemgiegbblaaW.PrintMore
set_option linter.unusedVariables false
set_option linter.unusedSimpArgs false
abbrev hexs : ByteArray := ⟨#[48, 49, 50, 51, 52, 53, 54, 55, 56, 57, 97, 98, 99, 100, 101, 102]⟩
/-- The sign of a digit of sixteen. -/
def hc (d : Int) : Int := if d < 10 then 48 + d else 87 + d
theorem hexd_hc (d : Int) (h0 : 0 ≤ d) (h1 : d < 16) : hexd (hc d) = d := by
  unfold hexd hc
  by_cases a : d < 10
  · rw [if_pos a, if_pos (by omega)]; omega
  · rw [if_neg a, if_neg (by omega), if_pos (by omega)]; omega
theorem hc_range (d : Int) (h0 : 0 ≤ d) (h1 : d < 16) : 0 ≤ hc d ∧ hc d ≤ 255 := by unfold hc; split <;> omega
theorem cut_nat : ∀ n : Nat, n < 16 → (⟨#[48, 49, 50, 51, 52, 53, 54, 55, 56, 57, 97, 98, 99, 100, 101, 102]⟩ : ByteArray).extract n (n + 1) = strOfNums [hc (n : Int)] := by decide +kernel
theorem cut_hex (d : Int) (h0 : 0 ≤ d) (h1 : d < 16) : (⟨#[48, 49, 50, 51, 52, 53, 54, 55, 56, 57, 97, 98, 99, 100, 101, 102]⟩ : ByteArray).extract d.toNat (d + 1).toNat = strOfNums [hc d] := by
  obtain ⟨n, rfl⟩ : ∃ n : Nat, d = (n : Int) := ⟨d.toNat, by omega⟩
  rw [show ((n : Int) + 1).toNat = n + 1 by omega, Int.toNat_natCast]
  exact cut_nat n (by omega)
theorem nums_append (l m : List Int) : strOfNums l ++ strOfNums m = strOfNums (l ++ m) := by
  unfold strOfNums
  apply ByteArray.ext
  simp [ByteArray.data_append]
theorem nums_size (l : List Int) : (strOfNums l).size = l.length := by simp [strOfNums, ByteArray.size]
theorem nums_drop (l : List Int) (a : Nat) : (strOfNums l).extract a l.length = strOfNums (l.drop a) := by
  unfold strOfNums
  apply ByteArray.ext
  simp [ByteArray.data_extract, List.map_drop]
  exact List.take_of_length_le (by simp)
theorem bt_nums (l : List Int) (hb : Byt l) (i : Nat) : bt (strOfNums l) (i : Int) = rd l (i : Int) := by
  unfold Go.Proofs.YtpigemgiegbblaaW.PrintWords.bt Go.Proofs.YtpigemgiegbblaaW.PrintWords.rd
  rw [Int.toNat_natCast, List.getD_eq_getElem?_getD]
  by_cases h : i < l.length
  · rw [dif_pos (by rw [nums_size]; exact h), List.getElem?_eq_getElem h]
    have := hb _ (List.getElem_mem h)
    have e : (strOfNums l)[i]'(by rw [nums_size]; exact h) = UInt8.ofNat (l[i]).toNat := by
      unfold strOfNums
      show (Array.mk (l.map fun n => UInt8.ofNat n.toNat))[i]'_ = _
      simp
    rw [e]
    simp
    omega
  · rw [dif_neg (by rw [nums_size]; exact h), List.getElem?_eq_none (by omega)]
    rfl
theorem and15 (x : Int) (h0 : 0 ≤ x) (h1 : x < 2147483648) : Go.bits .and .i64 x 15 = x % 16 := by
  have := bits_mask .i64 63 (by decide) (fun n a b => by rw [IntKind.wrap_i64]; omega) 4 (by decide) x h0 (by omega)
  simpa using this
theorem runes_step (k : Nat) (r : Int) (acc : List Int) (x n : Int) (q : Int) (hx0 : 0 ≤ x) (hx : x ≤ 7) (h0 : 0 ≤ r) (h1 : r ≤ 1114111) (ha : acc.length ≤ 8)
    (hn4 : 4 * x = n) (hn0 : 0 ≤ n) (hq : shr .i32 r n = q) (hq0 : 0 ≤ q) (hq1 : q ≤ 1114111) :
    correctorlaw5_CharsRunes.l0 (k + 1) r hexs (strOfNums acc) x = correctorlaw5_CharsRunes.l0 k r hexs (strOfNums (acc ++ [hc (q % 16)])) (x - 1) := by
  have hn : IntKind.u64.wrap (wrap64 (4 * x)) = n := by rw [w64 (by omega) (by omega), IntKind.wrap_u64]; omega
  rw [correctorlaw5_CharsRunes.l0, if_pos (by omega), hn, hq, w64 (x := q) (by omega) (by omega), and15 q hq0 (by omega), w64 (x := q % 16 + 1) (by omega) (by omega), w64 (x := x - 1) (by omega) (by omega)]
  have hs : (hexs.size : Int) = 16 := rfl
  rw [hs, if_pos hn0, if_pos (by omega), if_pos (by omega), if_pos (by omega)]
  have hcut := cut_hex (q % 16) (by omega) (by omega)
  rw [show (hexs.extract (q % 16).toNat (q % 16 + 1).toNat) = strOfNums [hc (q % 16)] from hcut, nums_append, if_pos (by rw [nums_size, nums_size]; simp; omega)]
/-- A sign's eight digits. -/
def eight (r : Int) : List Int := [hc (r / 268435456 % 16), hc (r / 16777216 % 16), hc (r / 1048576 % 16), hc (r / 65536 % 16), hc (r / 4096 % 16), hc (r / 256 % 16), hc (r / 16 % 16), hc (r % 16)]
theorem shr_i32 (r n : Int) (m : Nat) (q : Int) (hn : n.toNat = m) (hm : m ≤ 32) (hq : (2 : Int) ^ m = q) : shr .i32 r n = r / q := by
  subst hn
  unfold shr
  rw [Nat.min_eq_left (show n.toNat ≤ IntKind.i32.bits from hm), hq]
theorem runes_end (k : Nat) (r : Int) (h0 : 0 ≤ r) (h1 : r ≤ 1114111) : correctorlaw5_CharsRunes.l0 (k + 8) r hexs ⟨#[]⟩ 7 = correctorlaw5_CharsRunes.l0 k r hexs (strOfNums (eight r)) (-1) := by
  have e : (⟨#[]⟩ : ByteArray) = strOfNums [] := rfl
  rw [e, runes_step (k + 7) r [] 7 28 (r / 268435456) (by decide) (by decide) h0 h1 (by simp) (by decide) (by decide) (shr_i32 r 28 28 268435456 rfl (by decide) (by decide)) (by omega) (by omega)]
  rw [show (7 : Int) - 1 = 6 from rfl, runes_step (k + 6) r _ 6 24 (r / 16777216) (by decide) (by decide) h0 h1 (by simp) (by decide) (by decide) (shr_i32 r 24 24 16777216 rfl (by decide) (by decide)) (by omega) (by omega)]
  rw [show (6 : Int) - 1 = 5 from rfl, runes_step (k + 5) r _ 5 20 (r / 1048576) (by decide) (by decide) h0 h1 (by simp) (by decide) (by decide) (shr_i32 r 20 20 1048576 rfl (by decide) (by decide)) (by omega) (by omega)]
  rw [show (5 : Int) - 1 = 4 from rfl, runes_step (k + 4) r _ 4 16 (r / 65536) (by decide) (by decide) h0 h1 (by simp) (by decide) (by decide) (shr_i32 r 16 16 65536 rfl (by decide) (by decide)) (by omega) (by omega)]
  rw [show (4 : Int) - 1 = 3 from rfl, runes_step (k + 3) r _ 3 12 (r / 4096) (by decide) (by decide) h0 h1 (by simp) (by decide) (by decide) (shr_i32 r 12 12 4096 rfl (by decide) (by decide)) (by omega) (by omega)]
  rw [show (3 : Int) - 1 = 2 from rfl, runes_step (k + 2) r _ 2 8 (r / 256) (by decide) (by decide) h0 h1 (by simp) (by decide) (by decide) (shr_i32 r 8 8 256 rfl (by decide) (by decide)) (by omega) (by omega)]
  rw [show (2 : Int) - 1 = 1 from rfl, runes_step (k + 1) r _ 1 4 (r / 16) (by decide) (by decide) h0 h1 (by simp) (by decide) (by decide) (shr_i32 r 4 4 16 rfl (by decide) (by decide)) (by omega) (by omega)]
  rw [show (1 : Int) - 1 = 0 from rfl, runes_step k r _ 0 0 r (by decide) (by decide) h0 h1 (by simp) (by decide) (by decide) (by rw [shr_i32 r 0 0 1 rfl (by decide) (by decide)]; omega) (by omega) (by omega)]
  rfl
theorem hexv_step (s : ByteArray) (n : Nat) (p v d : Int) (h : hexd (bt s p) = d) (h0 : 0 ≤ d) : hexv s (n + 1) p v = hexv s n (p + 1) (16 * v + d) := by
  rw [hexv, h, if_neg (by omega)]
theorem eight_byt (r : Int) : Byt (eight r) := by
  unfold eight
  refine Byt.cons ?_ ?_ (Byt.cons ?_ ?_ (Byt.cons ?_ ?_ (Byt.cons ?_ ?_ (Byt.cons ?_ ?_ (Byt.cons ?_ ?_ (Byt.cons ?_ ?_ (Byt.cons ?_ ?_ Byt.nil)))))))
  all_goals first | exact (hc_range _ (by omega) (by omega)).1 | exact (hc_range _ (by omega) (by omega)).2
theorem val8 (r : Int) (h0 : 0 ≤ r) (h1 : r ≤ 1114111) : esc (strOfNums ([92, 85] ++ eight r)) = if 55296 ≤ r ∧ r ≤ 57343 then (⟨#[]⟩, 0) else (Utf8.encode r, 10) := by
  have hb : Byt ([92, 85] ++ eight r) := Byt.cons (by decide) (by decide) (Byt.cons (by decide) (by decide) (eight_byt r))
  have g : ∀ i : Nat, bt (strOfNums ([92, 85] ++ eight r)) (i : Int) = rd ([92, 85] ++ eight r) (i : Int) := bt_nums _ hb
  have b0 : bt (strOfNums ([92, 85] ++ eight r)) 0 = 92 := g 0
  have b1 : bt (strOfNums ([92, 85] ++ eight r)) 1 = 85 := g 1
  have dg : ∀ x : Int, hexd (hc (x % 16)) = x % 16 := fun x => hexd_hc _ (by omega) (by omega)
  have hv : hexv (strOfNums ([92, 85] ++ eight r)) 8 2 0 = r := by
    rw [hexv_step _ 7 2 0 (r / 268435456 % 16) (by rw [show bt (strOfNums ([92, 85] ++ eight r)) 2 = hc (r / 268435456 % 16) from g 2]; exact dg _) (by omega)]
    rw [hexv_step _ 6 (2 + 1) _ (r / 16777216 % 16) (by rw [show bt (strOfNums ([92, 85] ++ eight r)) (2 + 1) = hc (r / 16777216 % 16) from g 3]; exact dg _) (by omega)]
    rw [hexv_step _ 5 (2 + 1 + 1) _ (r / 1048576 % 16) (by rw [show bt (strOfNums ([92, 85] ++ eight r)) (2 + 1 + 1) = hc (r / 1048576 % 16) from g 4]; exact dg _) (by omega)]
    rw [hexv_step _ 4 (2 + 1 + 1 + 1) _ (r / 65536 % 16) (by rw [show bt (strOfNums ([92, 85] ++ eight r)) (2 + 1 + 1 + 1) = hc (r / 65536 % 16) from g 5]; exact dg _) (by omega)]
    rw [hexv_step _ 3 (2 + 1 + 1 + 1 + 1) _ (r / 4096 % 16) (by rw [show bt (strOfNums ([92, 85] ++ eight r)) (2 + 1 + 1 + 1 + 1) = hc (r / 4096 % 16) from g 6]; exact dg _) (by omega)]
    rw [hexv_step _ 2 (2 + 1 + 1 + 1 + 1 + 1) _ (r / 256 % 16) (by rw [show bt (strOfNums ([92, 85] ++ eight r)) (2 + 1 + 1 + 1 + 1 + 1) = hc (r / 256 % 16) from g 7]; exact dg _) (by omega)]
    rw [hexv_step _ 1 (2 + 1 + 1 + 1 + 1 + 1 + 1) _ (r / 16 % 16) (by rw [show bt (strOfNums ([92, 85] ++ eight r)) (2 + 1 + 1 + 1 + 1 + 1 + 1) = hc (r / 16 % 16) from g 8]; exact dg _) (by omega)]
    rw [hexv_step _ 0 (2 + 1 + 1 + 1 + 1 + 1 + 1 + 1) _ (r % 16) (by rw [show bt (strOfNums ([92, 85] ++ eight r)) (2 + 1 + 1 + 1 + 1 + 1 + 1 + 1) = hc (r % 16) from g 9]; exact dg _) (by omega)]
    unfold hexv
    omega
  have hs : (strOfNums ([92, 85] ++ eight r)).size = 10 := by rw [nums_size]; rfl
  unfold esc
  rw [hs, b0, b1, if_neg (by decide), show simp1 85 = none from rfl]
  simp only
  rw [show digs 85 = 8 from rfl, hv, if_neg (by decide)]
  by_cases a : 55296 ≤ r ∧ r ≤ 57343
  · rw [if_pos (show r < 0 ∨ r > 1114111 ∨ 55296 ≤ r ∧ r ≤ 57343 by omega), if_pos a]
  · rw [if_neg (show ¬ (r < 0 ∨ r > 1114111 ∨ 55296 ≤ r ∧ r ≤ 57343) by omega), if_neg a]
    rfl
theorem val4 (r : Int) (h0 : 0 ≤ r) (h1 : r ≤ 65535) (h2 : ¬ (55296 ≤ r ∧ r ≤ 57343)) : esc (strOfNums ([92, 117] ++ (eight r).drop 4)) = (Utf8.encode r, 6) := by
  have hb : Byt ([92, 117] ++ (eight r).drop 4) := Byt.cons (by decide) (by decide) (Byt.cons (by decide) (by decide) ((eight_byt r).drop 4))
  have g : ∀ i : Nat, bt (strOfNums ([92, 117] ++ (eight r).drop 4)) (i : Int) = rd ([92, 117] ++ (eight r).drop 4) (i : Int) := bt_nums _ hb
  have b0 : bt (strOfNums ([92, 117] ++ (eight r).drop 4)) 0 = 92 := g 0
  have b1 : bt (strOfNums ([92, 117] ++ (eight r).drop 4)) 1 = 117 := g 1
  have dg : ∀ x : Int, hexd (hc (x % 16)) = x % 16 := fun x => hexd_hc _ (by omega) (by omega)
  have hv : hexv (strOfNums ([92, 117] ++ (eight r).drop 4)) 4 2 0 = r := by
    rw [hexv_step _ 3 2 0 (r / 4096 % 16) (by rw [show bt (strOfNums ([92, 117] ++ (eight r).drop 4)) 2 = hc (r / 4096 % 16) from g 2]; exact dg _) (by omega)]
    rw [hexv_step _ 2 (2 + 1) _ (r / 256 % 16) (by rw [show bt (strOfNums ([92, 117] ++ (eight r).drop 4)) (2 + 1) = hc (r / 256 % 16) from g 3]; exact dg _) (by omega)]
    rw [hexv_step _ 1 (2 + 1 + 1) _ (r / 16 % 16) (by rw [show bt (strOfNums ([92, 117] ++ (eight r).drop 4)) (2 + 1 + 1) = hc (r / 16 % 16) from g 4]; exact dg _) (by omega)]
    rw [hexv_step _ 0 (2 + 1 + 1 + 1) _ (r % 16) (by rw [show bt (strOfNums ([92, 117] ++ (eight r).drop 4)) (2 + 1 + 1 + 1) = hc (r % 16) from g 5]; exact dg _) (by omega)]
    unfold hexv
    omega
  have hs : (strOfNums ([92, 117] ++ (eight r).drop 4)).size = 6 := by rw [nums_size]; rfl
  unfold esc
  rw [hs, b0, b1, if_neg (by decide), show simp1 117 = none from rfl]
  simp only
  rw [show digs 117 = 4 from rfl, hv, if_neg (by decide), if_neg (show ¬ (r < 0 ∨ r > 1114111 ∨ 55296 ≤ r ∧ r ≤ 57343) by omega)]
  rfl
theorem CharsRunes : correctorlaw5_CharsRunes.Pure := by
  intro r _
  obtain ⟨K, hK⟩ : ∃ K : Nat, 300 < K := ⟨301, by omega⟩
  refine ⟨K, ?_⟩
  unfold correctorlaw5_CharsRunes.f
  rw [known5 K (by omega)]
  simp only [Option.bind_some, if_true]
  obtain ⟨k, rfl⟩ : ∃ m, K = m + 11 := ⟨K - 11, by omega⟩
  have yes : correctorlaw5_CharsRunes.j0 (k + 11) r true = some true := by rw [correctorlaw5_CharsRunes.j0, if_pos rfl]
  by_cases h0 : r < 0
  · rw [if_pos h0, yes]
  rw [if_neg h0]
  by_cases h1 : r > 1114111
  · rw [decide_eq_true h1, yes]
  rw [decide_eq_false h1, correctorlaw5_CharsRunes.j0, if_neg Bool.false_ne_true, runes_end (k + 2) r (by omega) (by omega), correctorlaw5_CharsRunes.l0, if_neg (by decide)]
  have hsz : (strOfNums (eight r)).size = 8 := by rw [nums_size]; rfl
  have e8 : (⟨#[92, 85]⟩ : ByteArray) ++ strOfNums (eight r) = strOfNums ([92, 85] ++ eight r) := nums_append [92, 85] (eight r)
  have e4 : (strOfNums (eight r)).extract 4 8 = strOfNums ((eight r).drop 4) := nums_drop (eight r) 4
  have e5 : (⟨#[92, 117]⟩ : ByteArray) ++ strOfNums ((eight r).drop 4) = strOfNums ([92, 117] ++ (eight r).drop 4) := nums_append [92, 117] ((eight r).drop 4)
  rw [hsz, if_pos (by decide), e8, escape_eq _ (by omega), val8 r (by omega) (by omega)]
  simp only [Option.bind_some]
  by_cases a : 55296 ≤ r ∧ r ≤ 57343
  · rw [if_pos a, if_pos (by omega), decide_eq_true (by omega), correctorlaw5_CharsRunes.j2, if_pos rfl]
    simp only [ByteArray.toList_eq]
    rfl
  · rw [if_neg a]
    have st : (if r ≥ 55296 then correctorlaw5_CharsRunes.j2 (k + 1) r (strOfNums (eight r)) (Utf8.encode r, (10 : Int)).1 (Utf8.encode r, (10 : Int)).2 (decide (r ≤ 57343)) else correctorlaw5_CharsRunes.j2 (k + 1) r (strOfNums (eight r)) (Utf8.encode r, (10 : Int)).1 (Utf8.encode r, (10 : Int)).2 false) = correctorlaw5_CharsRunes.j2 (k + 1) r (strOfNums (eight r)) (Utf8.encode r) 10 false := by
      by_cases h : r ≥ 55296
      · rw [if_pos h, decide_eq_false (by omega)]
      · rw [if_neg h]
    rw [st, correctorlaw5_CharsRunes.j2, if_neg Bool.false_ne_true, if_pos rfl, if_pos rfl, hsz, if_pos (by decide), e4, if_pos (by rw [nums_size]; show 2 + 4 ≤ 9223372036854775807; decide), e5, escape_eq _ (by omega)]
    simp only [Option.bind_some]
    by_cases b : r > 65535
    · rw [if_pos b]
    rw [if_neg b, val4 r (by omega) (by omega) a, if_pos rfl]
    rfl
end Go.Proofs.Ytpigemgiegbblaa.Pure
