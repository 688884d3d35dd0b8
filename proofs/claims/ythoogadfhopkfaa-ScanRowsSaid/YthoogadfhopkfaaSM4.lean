/- The scanner's function that reads a block text's rows. -/
import Derived.Test.YthoogadfhopkfaaSM3
import Derived.Test.YthoogadfhopkfaaSCA
import Derived.StillTailTactics
import Derived.IntWalk
namespace Go.Proofs.Ythoogadfhopkfaa.Sc
open Go.RowKit Go.Proofs.Ythoogadfhopkfaa.Q Go.Proofs.YthoogadfhopkfaaW.PrintWords Go.Proofs.YthoogadfhopkfaaW.PrintLast Go.Proofs.YthoogadfhopkfaaW.PrintMore
attribute [local go_sem] max2_int min2_int max_two min_two max_three min_three max_four min_four
set_option linter.unusedVariables false
set_option linter.unusedSimpArgs false
set_option maxHeartbeats 1000000
set_option maxRecDepth 100000

/-- What holds of a scanner between two steps. -/
structure Ok (b : List Int) (s : St) : Prop where
  r0 : 0 ≤ s.row
  r1 : s.row ≤ s.at_
  a1 : s.at_ ≤ (b.length : Int)
  n : (s.l.length : Int) ≤ s.at_
  o0 : 0 ≤ s.op
  o1 : s.op ≤ s.at_
  b0 : -1 ≤ s.base
  b1 : s.base ≤ s.at_
theorem Ok.tkOp {b : List Int} {s : St} (h : Ok b s) (k o : Int) {e : Int} (h1 : s.at_ < e) (h2 : e ≤ (b.length : Int)) (h3 : 0 ≤ o) (h4 : o ≤ e) : Ok b (tk k e { s with op := o }) := by
  have := h.r0
  have := h.r1
  have := h.n
  have := h.b0
  have := h.b1
  refine ⟨?_, ?_, h2, ?_, h3, h4, ?_, ?_⟩
  · simp only [Sc.tk, tkRow]; split <;> omega
  · simp only [Sc.tk, tkRow]; split <;> omega
  · simp only [Sc.tk, List.length_append, List.length_singleton]; omega
  · simp only [Sc.tk, tkBase]; repeat' split
    all_goals omega
  · simp only [Sc.tk, tkBase]; repeat' split
    all_goals omega
theorem Ok.tk {b : List Int} {s : St} (h : Ok b s) (k : Int) {e : Int} (h1 : s.at_ < e) (h2 : e ≤ (b.length : Int)) : Ok b (tk k e s) :=
  h.tkOp k s.op h1 h2 h.o0 (by have := h.o1; omega)
theorem brk_le {b : List Int} {i : Int} (h : 0 < brk b i) : i + brk b i ≤ (b.length : Int) := by
  unfold brk at h ⊢
  split
  · rename_i h1
    have := (th_true (Bool.and_eq_true _ _ |>.mp h1).2).1
    omega
  · rename_i h1
    rw [if_neg h1] at h
    split
    · rename_i h2
      rcases Bool.or_eq_true _ _ |>.mp h2 with h3 | h3 <;> have := (th_true h3).1 <;> omega
    · rename_i h2
      rw [if_neg h2] at h
      omega
theorem upto_at {n : Int} {p : Int → Bool} : ∀ {i : Int}, upto n p i < n → p (upto n p i) = false := by
  intro i h
  have key : ∀ (k : Nat) (i : Int), k = (n - i).toNat → upto n p i < n → p (upto n p i) = false := by
    intro k
    induction k with
    | zero =>
      intro i hk h
      rw [upto_end (by omega)] at h
      omega
    | succ k ih =>
      intro i hk h
      by_cases hp : p i = true
      · rw [upto_go (by omega) hp] at h ⊢
        exact ih (i + 1) (by omega) h
      · rw [upto_stop (by simpa using hp)]
        simpa using hp
  exact key _ i rfl h
/-- Behind a row there is more than ahead of it. -/
theorem line_more {b : List Int} {i : Int} (h : i < (b.length : Int)) : i < line b i + brk b (line b i) ∧ line b i + brk b (line b i) ≤ (b.length : Int) := by
  have h1 := upto_le (n := (b.length : Int)) (i := i) (p := fun j => brk b j == 0) (Int.le_of_lt h)
  have h0 : i ≤ line b i := h1.1
  have h2 : line b i ≤ (b.length : Int) := h1.2
  have h3 := brk_range b (line b i)
  by_cases h4 : line b i < (b.length : Int)
  · have h5 : (brk b (line b i) == 0) = false := upto_at (p := fun j => brk b j == 0) h4
    have h6 : brk b (line b i) ≠ 0 := by simpa using h5
    exact ⟨by omega, brk_le (by omega)⟩
  · have h7 : brk b (line b i) = 0 := by
      rcases Int.lt_or_le 0 (brk b (line b i)) with h8 | h8
      · have := brk_le h8; omega
      · omega
    omega
theorem Ok.texts1 {b : List Int} {s : St} (h : Ok b s) : Ok b (texts1 b s) := by
  unfold Sc.texts1
  split
  · rename_i h1
    exact h.tk 3 h1 (upto_le h.a1).2
  · exact h
theorem Ok.texts2 {b : List Int} {s : St} (h : Ok b s) : Ok b (texts2 b s) := by
  unfold Sc.texts2
  split
  · rename_i h1
    exact h.tk 4 h1 (upto_le h.a1).2
  · exact h

theorem texts_calls (w0 W : World) (g : Nat) (A0 : Option Addr) (c0 : Nat) (b : List Int) (at_ : Int) (V : Value) (l : List S32) (op row base : Int) (dash : Bool) (hs : SR w0 W g A0 c0 b at_ V l op row base dash) (bs : Int) (hk : Ok b ⟨at_, l, op, row, base, dash⟩) (h0 : 0 ≤ at_) (bs0 : -1 ≤ bs) (bs1 : bs ≤ 16384) :
    Calls Try.prog 45 #[.pointer (some ⟨g, 0, none⟩), .int .i64 bs] W fun e w' => e = .returned (.tuple #[]) ∧ SS w0 w' g A0 c0 b (texts b bs ⟨at_, l, op, row, base, dash⟩) := by
  have H := Aside0.mk hs
  have hc0 := hs.q.cell0
  have hc1 := hs.q.cell1
  have hc2 := hs.q.cell2
  have hc3 := hs.q.cell3
  have hc4 := hs.q.cell4
  have hc5 := hs.q.cell5
  have hc6 := hs.q.cell6
  have hf1 := blk_frozen hs.q.blk 1
  have hf3 := blk_frozen hs.q.blk 3
  have hf4 := blk_frozen hs.q.blk 4
  have hf5 := blk_frozen hs.q.blk 5
  have hf6 := blk_frozen hs.q.blk 6
  have hl := hs.q.len
  clear hs
  have hrow0 : 0 ≤ row := hk.r0
  have hrow1 : row ≤ at_ := hk.r1
  have hat1 : at_ ≤ (b.length : Int) := hk.a1
  have hln : (l.length : Int) ≤ at_ := hk.n
  have HK := Aside0.mk hk
  clear hk
  have hb_ := upto_le (n := (b.length : Int)) (i := at_) (p := fun j => blank (rd b j)) hat1
  have b0 : at_ ≤ blanks b at_ := hb_.1
  have b1 : blanks b at_ ≤ (b.length : Int) := hb_.2
  clear hb_
  clear hrow0 hrow1 hln
  go_enter Try.func45, Try.ntmps45
  go_wp2
  go_step3
  go_upto_if 19 with (first | (go_at_call 34; (with_reducible refine (blanks_calls _ g _ c0 b at_ V op row base dash (by first | exact H.out.q | exact H.out.q.drewN _ | exact (H.out.q.drewN _).drewN _) _ (by omega) (by omega)).mono ?_); rintro e w1 ⟨rfl, n1, rfl⟩))
  go_cut [4] (fun v4 wc => Aside0 (SS w0 wc g A0 c0 b (texts1 b ⟨at_, l, op, row, base, dash⟩)))
  case first =>
    have hrow0 : 0 ≤ row := HK.out.r0
    have hrow1 : row ≤ at_ := HK.out.r1
    have hln : (l.length : Int) ≤ at_ := HK.out.n
    by_cases c1 : at_ < blanks b at_
    · have d1 : decide (at_ < blanks b at_) = true := decide_eq_true c1
      have T1 := Aside0.mk (show texts1 b ⟨at_, l, op, row, base, dash⟩ = tk 3 (blanks b at_) ⟨at_, l, op, row, base, dash⟩ from if_pos c1)
      go_wp2_with (first | (go_at_call 31; (with_reducible refine (token_calls w0 _ g _ c0 b at_ V l op row base dash (by repeat (first | exact H.out | exact H.out.drewN _ | exact (H.out.drewN _).drewN _ | (with_reducible first | apply SR.set1 | apply SR.set3 | apply SR.set4 | apply SR.set5 | apply SR.set6))) _ _ (by omega) (by omega) (by omega) (by omega) (by omega)).mono ?_); rintro e w2 ⟨rfl, V5, h2⟩; have H5 := Aside0.mk h2; have gc0 := h2.q.cell0; have gc1 := h2.q.cell1; have gc2 := h2.q.cell2; have gc3 := h2.q.cell3; have gc4 := h2.q.cell4; have gc5 := h2.q.cell5; have gc6 := h2.q.cell6; have gf1 := blk_frozen h2.q.blk 1; have gf3 := blk_frozen h2.q.blk 3; have gf4 := blk_frozen h2.q.blk 4; have gf5 := blk_frozen h2.q.blk 5; have gf6 := blk_frozen h2.q.blk 6; clear h2))
      go_meet
      case rel => exact ⟨by rw [T1.out]; exact ⟨V5, H5.out⟩⟩
    · have d1 : decide (at_ < blanks b at_) = false := decide_eq_false c1
      have T1 := Aside0.mk (show texts1 b ⟨at_, l, op, row, base, dash⟩ = ⟨at_, l, op, row, base, dash⟩ from if_neg c1)
      go_wp2
      go_meet
      case rel => exact ⟨by rw [T1.out]; exact ⟨V, (show SR w0 _ g _ c0 b at_ V l op row base dash from by repeat (first | exact H.out | exact H.out.drewN _ | exact (H.out.drewN _).drewN _ | (with_reducible first | apply SR.set1 | apply SR.set3 | apply SR.set4 | apply SR.set5 | apply SR.set6)))⟩⟩
  case rest =>
    clear b0 b1
    obtain ⟨V1, h1⟩ := hcut.out
    have K1 := Aside0.mk HK.out.texts1
    have HR : Aside0 (texts b bs ⟨at_, l, op, row, base, dash⟩ = texts3 b bs (texts2 b (texts1 b ⟨at_, l, op, row, base, dash⟩))) := ⟨rfl⟩
    generalize texts1 b ⟨at_, l, op, row, base, dash⟩ = s1 at *
    obtain ⟨at1, l1, op1, row1, base1, dash1⟩ := s1
    have H1 : Aside0 (SR w0 wc g A0 c0 b at1 V1 l1 op1 row1 base1 dash1) := ⟨h1⟩
    clear h1 hcut hc0 hc1 hc2 hc3 hc4 hc5 hc6 hf1 hf3 hf4 hf5 hf6 H HK hat1 h0
    have gc0 := H1.out.q.cell0
    have gc1 := H1.out.q.cell1
    have gc2 := H1.out.q.cell2
    have gc3 := H1.out.q.cell3
    have gc4 := H1.out.q.cell4
    have gc5 := H1.out.q.cell5
    have gc6 := H1.out.q.cell6
    have gf1 := blk_frozen H1.out.q.blk 1
    have gf3 := blk_frozen H1.out.q.blk 3
    have gf4 := blk_frozen H1.out.q.blk 4
    have gf5 := blk_frozen H1.out.q.blk 5
    have gf6 := blk_frozen H1.out.q.blk 6
    have hrow0 : 0 ≤ row1 := K1.out.r0
    have hrow1 : row1 ≤ at1 := K1.out.r1
    have hln : (l1.length : Int) ≤ at1 := K1.out.n
    have hat1 : at1 ≤ (b.length : Int) := K1.out.a1
    have hb_ := upto_le (n := (b.length : Int)) (i := at1) (p := fun j => brk b j == 0) hat1
    have b0 : at1 ≤ line b at1 := hb_.1
    have b1 : line b at1 ≤ (b.length : Int) := hb_.2
    clear hb_
    go_upto_if 34 with (first | (go_at_call 37; (with_reducible refine (line_calls _ g _ c0 b at1 V1 op1 row1 base1 dash1 (by first | exact H1.out.q | exact H1.out.q.drewN _ | exact (H1.out.q.drewN _).drewN _) _ (by omega) (by omega)).mono ?_); rintro e w1 ⟨rfl, n1, rfl⟩))
    go_cut [5] (fun v5 wd => Aside0 (SS w0 wd g A0 c0 b (texts2 b ⟨at1, l1, op1, row1, base1, dash1⟩)))
    case first =>
      by_cases c1 : at1 < line b at1
      · have T1 := Aside0.mk (show texts2 b ⟨at1, l1, op1, row1, base1, dash1⟩ = tk 4 (line b at1) ⟨at1, l1, op1, row1, base1, dash1⟩ from if_pos c1)
        go_wp2_with (first | (go_at_call 31; (with_reducible refine (token_calls w0 _ g _ c0 b at1 V1 l1 op1 row1 base1 dash1 (by repeat (first | exact H1.out | exact H1.out.drewN _ | exact (H1.out.drewN _).drewN _ | (with_reducible first | apply SR.set1 | apply SR.set3 | apply SR.set4 | apply SR.set5 | apply SR.set6))) _ _ (by omega) (by omega) (by omega) (by omega) (by omega)).mono ?_); rintro e w2 ⟨rfl, V5, h2⟩; have H5 := Aside0.mk h2; have gc0 := h2.q.cell0; have gc1 := h2.q.cell1; have gc2 := h2.q.cell2; have gc3 := h2.q.cell3; have gc4 := h2.q.cell4; have gc5 := h2.q.cell5; have gc6 := h2.q.cell6; have gf1 := blk_frozen h2.q.blk 1; have gf3 := blk_frozen h2.q.blk 3; have gf4 := blk_frozen h2.q.blk 4; have gf5 := blk_frozen h2.q.blk 5; have gf6 := blk_frozen h2.q.blk 6; clear h2))
        go_meet
        case rel => exact ⟨by rw [T1.out]; exact ⟨V5, H5.out⟩⟩
      · have T1 := Aside0.mk (show texts2 b ⟨at1, l1, op1, row1, base1, dash1⟩ = ⟨at1, l1, op1, row1, base1, dash1⟩ from if_neg c1)
        go_wp2
        go_meet
        case rel => exact ⟨by rw [T1.out]; exact ⟨V1, (show SR w0 _ g _ c0 b at1 V1 l1 op1 row1 base1 dash1 from by repeat (first | exact H1.out | exact H1.out.drewN _ | exact (H1.out.drewN _).drewN _ | (with_reducible first | apply SR.set1 | apply SR.set3 | apply SR.set4 | apply SR.set5 | apply SR.set6)))⟩⟩
    case rest =>
      clear b0 b1
      obtain ⟨V2, h2⟩ := hcut.out
      have K2 := Aside0.mk K1.out.texts2
      generalize texts2 b ⟨at1, l1, op1, row1, base1, dash1⟩ = s2 at *
      obtain ⟨at2, l2, op2, row2, base2, dash2⟩ := s2
      have H2 : Aside0 (SR w0 wc g A0 c0 b at2 V2 l2 op2 row2 base2 dash2) := ⟨h2⟩
      clear h2 hcut gc0 gc1 gc2 gc3 gc4 gc5 gc6 gf1 gf3 gf4 gf5 gf6 H1 K1 hat1 hrow0 hrow1 hln
      have gc0 := H2.out.q.cell0
      have gc1 := H2.out.q.cell1
      have gc2 := H2.out.q.cell2
      have gc3 := H2.out.q.cell3
      have gc4 := H2.out.q.cell4
      have gc5 := H2.out.q.cell5
      have gc6 := H2.out.q.cell6
      have gf1 := blk_frozen H2.out.q.blk 1
      have gf3 := blk_frozen H2.out.q.blk 3
      have gf4 := blk_frozen H2.out.q.blk 4
      have gf5 := blk_frozen H2.out.q.blk 5
      have gf6 := blk_frozen H2.out.q.blk 6
      have hrow0 : 0 ≤ row2 := K2.out.r0
      have hrow1 : row2 ≤ at2 := K2.out.r1
      have hln : (l2.length : Int) ≤ at2 := K2.out.n
      have hat1 : at2 ≤ (b.length : Int) := K2.out.a1
      have hop0 : 0 ≤ op2 := K2.out.o0
      have bk := brk_range b at2
      have bk0 := bk.1
      have bk1 := bk.2
      clear bk
      by_cases c2 : brk b at2 = 0
      · have e2 : (brk b at2 == 0) = true := beq_iff_eq.mpr c2
        have T2 := Aside0.mk (show texts3 b bs ⟨at2, l2, op2, row2, base2, dash2⟩ = ⟨at2, l2, op2, row2, base2, dash2⟩ from if_pos c2)
        clear c2
        go_wp2_with (first | (go_at_call 33; (with_reducible refine (brk_calls _ g _ c0 b at2 V2 op2 row2 base2 dash2 (by first | exact H2.out.q | exact H2.out.q.drewN _ | exact (H2.out.q.drewN _).drewN _) _ (by omega) (by omega)).mono ?_); rintro e w1 ⟨rfl, n1, rfl⟩))
        first | rw [Exit.noGoto_ret] | rw [Exit.noGoto_normal] | skip
        first | go_end0 | ((try simp only [Exit.inBlock, Exit.then]); refine bodyPost_ret (results_none rfl _ _ _) rfl ?_)
        exact ⟨rfl, by rw [HR.out, T2.out]; exact ⟨V2, (show SR w0 _ g _ c0 b at2 V2 l2 op2 row2 base2 dash2 from by repeat (first | exact H2.out | exact H2.out.drewN _ | exact (H2.out.drewN _).drewN _ | (with_reducible first | apply SR.set1 | apply SR.set3 | apply SR.set4 | apply SR.set5 | apply SR.set6)))⟩⟩
      · have e2 : (brk b at2 == 0) = false := beq_eq_false_iff_ne.mpr c2
        have bl := brk_le (b := b) (i := at2) (by omega)
        have K3 := Aside0.mk (K2.out.tk 1 (e := at2 + brk b at2) (by dsimp only; omega) bl)
        have T2 := Aside0.mk (show texts3 b bs ⟨at2, l2, op2, row2, base2, dash2⟩ = textRows b bs ((b.length : Int) - at2).toNat (tk 1 (at2 + brk b at2) ⟨at2, l2, op2, row2, base2, dash2⟩) from if_neg c2)
        clear c2
        go_wp2_with (first | (go_at_call 33; (with_reducible refine (brk_calls _ g _ c0 b at2 V2 op2 row2 base2 dash2 (by first | exact H2.out.q | exact H2.out.q.drewN _ | exact (H2.out.q.drewN _).drewN _) _ (by omega) (by omega)).mono ?_); rintro e w1 ⟨rfl, n1, rfl⟩) | (go_at_call 31; (with_reducible refine (token_calls w0 _ g _ c0 b at2 V2 l2 op2 row2 base2 dash2 (by repeat (first | exact H2.out | exact H2.out.drewN _ | exact (H2.out.drewN _).drewN _ | (with_reducible first | apply SR.set1 | apply SR.set3 | apply SR.set4 | apply SR.set5 | apply SR.set6))) _ _ (by omega) (by omega) (by omega) (by omega) (by omega)).mono ?_); rintro e w2 ⟨rfl, V5, h2⟩; have H5 := Aside0.mk h2; have gc0 := h2.q.cell0; have gc1 := h2.q.cell1; have gc2 := h2.q.cell2; have gc3 := h2.q.cell3; have gc4 := h2.q.cell4; have gc5 := h2.q.cell5; have gc6 := h2.q.cell6; have gf1 := blk_frozen h2.q.blk 1; have gf3 := blk_frozen h2.q.blk 3; have gf4 := blk_frozen h2.q.blk 4; have gf5 := blk_frozen h2.q.blk 5; have gf6 := blk_frozen h2.q.blk 6; clear h2))
        go_step3
        go_wp2
        go_loopg [7] ((b.length : Int) - at2).toNat (fun kq v7 wq => ∃ s : St, Aside0 (Ok b s ∧ textRows b bs kq s = texts b bs ⟨at_, l, op, row, base, dash⟩ ∧ (b.length : Int) - s.at_ ≤ kq) ∧ Aside0 (SS w0 wq g A0 c0 b s))
        case atStart => exact ⟨_, ⟨⟨K3.out, by rw [HR.out, T2.out], by dsimp only [tk]; omega⟩⟩, ⟨⟨V5, H5.out⟩⟩⟩
        case round =>
          clear gc0 gc1 gc2 gc3 gc4 gc5 gc6 gf1 gf3 gf4 gf5 gf6 H2 H5 K2 K3 T2 HR hrow0 hrow1 hln hat1 hop0 bk0 bk1 e2 bl
          obtain ⟨s, HX, HSS⟩ := hrel
          obtain ⟨at3, l3, op3, row3, base3, dash3⟩ := s
          obtain ⟨V3, h3⟩ := HSS.out
          have H3 : Aside0 (SR w0 wr g A0 c0 b at3 V3 l3 op3 row3 base3 dash3) := ⟨h3⟩
          clear h3 HSS
          have gc0 := H3.out.q.cell0
          have gc1 := H3.out.q.cell1
          have gc2 := H3.out.q.cell2
          have gc3 := H3.out.q.cell3
          have gc4 := H3.out.q.cell4
          have gc5 := H3.out.q.cell5
          have gc6 := H3.out.q.cell6
          have gf1 := blk_frozen H3.out.q.blk 1
          have gf3 := blk_frozen H3.out.q.blk 3
          have gf4 := blk_frozen H3.out.q.blk 4
          have gf5 := blk_frozen H3.out.q.blk 5
          have gf6 := blk_frozen H3.out.q.blk 6
          have K3 := Aside0.mk HX.out.1
          have hrow0 : 0 ≤ row3 := K3.out.r0
          have hrow1 : row3 ≤ at3 := K3.out.r1
          have hln : (l3.length : Int) ≤ at3 := K3.out.n
          have hat1 : at3 ≤ (b.length : Int) := K3.out.a1
          by_cases c1 : at3 < (b.length : Int)
          · have d1 : decide (at3 < (b.length : Int)) = true := decide_eq_true c1
            by_cases c2 : mark b at3 = 0
            · have d2 : (mark b at3 == 0) = true := beq_iff_eq.mpr c2
              obtain ⟨m, rfl⟩ : ∃ m, gk = m + 1 := ⟨gk - 1, by have h_ : (b.length : Int) - at3 ≤ (gk : Int) := HX.out.2.2; omega⟩
              have HT := HX.out.2.1
              simp only [textRows] at HT
              rw [if_pos ⟨c1, c2⟩] at HT
              have HM : Aside0 ((b.length : Int) - at3 ≤ ((m + 1 : Nat) : Int)) := ⟨HX.out.2.2⟩
              clear HX
              have hb_ := upto_le (n := (b.length : Int)) (i := at3) (p := fun j => blank (rd b j)) hat1
              have b0 : at3 ≤ blanks b at3 := hb_.1
              have b1 : blanks b at3 ≤ (b.length : Int) := hb_.2
              clear hb_
              have hb_ := upto_le (n := (b.length : Int)) (i := at3) (p := fun j => rd b j == 32) hat1
              have s0 : at3 ≤ spaces b at3 := hb_.1
              have s1 : spaces b at3 ≤ (b.length : Int) := hb_.2
              clear hb_
              have hb_ := upto_le (n := (b.length : Int)) (i := at3) (p := fun j => brk b j == 0) hat1
              have l0 : at3 ≤ line b at3 := hb_.1
              have l1 : line b at3 ≤ (b.length : Int) := hb_.2
              clear hb_
              have bk := brk_range b (line b at3)
              have bk0 := bk.1
              have bk1 := bk.2
              clear bk
              have lm := line_more (b := b) c1
              have lm0 := lm.1
              have lm1 := lm.2
              clear lm
              have w1 : IntKind.i64.wrap (spaces b at3 - at3) = spaces b at3 - at3 := IntWalk.i64_in _ (by omega)
              by_cases c3 : blanks b at3 = line b at3
              · have d3 : (blanks b at3 != line b at3) = false := bne_eq_false_iff_eq.mpr c3
                rw [if_neg (fun h => h.1 c3)] at HT
                have HT2 := Aside0.mk HT
                clear HT c3 c2
                go_wp2
                go_quiet ((go_at_call 30; (with_reducible refine Calls.quiet_of (mark_calls _ g _ c0 b at3 V3 op3 row3 base3 dash3 (H3.out.q.drewN _) at3 (by omega) (by omega)))))
                go_wp2_with (first | (go_at_call 37; (with_reducible refine (line_calls _ g _ c0 b at3 V3 op3 row3 base3 dash3 (by first | exact H3.out.q | exact H3.out.q.drewN _ | exact (H3.out.q.drewN _).drewN _) _ (by omega) (by omega)).mono ?_); rintro e w1 ⟨rfl, n1, rfl⟩))
                go_quiet ((first | (go_at_call 34; (with_reducible refine calls_more (blanks_calls _ g _ c0 b at3 V3 op3 row3 base3 dash3 (H3.out.q.drewN _) at3 (by omega) (by omega)))) | (go_at_call 32; (with_reducible refine calls_more (spaces_calls _ g _ c0 b at3 V3 op3 row3 base3 dash3 (H3.out.q.drewN _) at3 (by omega) (by omega))))))
                go_wp2_with (first | (go_at_call 33; (with_reducible refine (brk_calls _ g _ c0 b at3 V3 op3 row3 base3 dash3 (by first | exact H3.out.q | exact H3.out.q.drewN _ | exact (H3.out.q.drewN _).drewN _) _ (by omega) (by omega)).mono ?_); rintro e w1 ⟨rfl, n1, rfl⟩) | (go_at_call 31; (with_reducible refine (token_calls w0 _ g _ c0 b at3 V3 l3 op3 row3 base3 dash3 (by repeat (first | exact H3.out | exact H3.out.drewN _ | exact (H3.out.drewN _).drewN _ | (with_reducible first | apply SR.set1 | apply SR.set3 | apply SR.set4 | apply SR.set5 | apply SR.set6))) _ _ (by omega) (by omega) (by omega) (by omega) (by omega)).mono ?_); rintro e w2 ⟨rfl, V5, h2⟩; have H5 := Aside0.mk h2; have gc0 := h2.q.cell0; have gc1 := h2.q.cell1; have gc2 := h2.q.cell2; have gc3 := h2.q.cell3; have gc4 := h2.q.cell4; have gc5 := h2.q.cell5; have gc6 := h2.q.cell6; have gf1 := blk_frozen h2.q.blk 1; have gf3 := blk_frozen h2.q.blk 3; have gf4 := blk_frozen h2.q.blk 4; have gf5 := blk_frozen h2.q.blk 5; have gf6 := blk_frozen h2.q.blk 6; clear h2))
                go_roundg m
                case measure => omega
                case rel => exact ⟨tk 19 (line b at3 + brk b (line b at3)) ⟨at3, l3, op3, row3, base3, dash3⟩, ⟨⟨K3.out.tk 19 (by dsimp only; omega) lm1, HT2.out, by dsimp only [tk]; have := HM.out; omega⟩⟩, ⟨⟨V5, H5.out⟩⟩⟩
              · have d3 : (blanks b at3 != line b at3) = true := bne_iff_ne.mpr c3
                by_cases c4 : spaces b at3 - at3 ≤ bs
                · have d4 : decide (spaces b at3 - at3 ≤ bs) = true := decide_eq_true c4
                  rw [if_pos ⟨c3, c4⟩] at HT
                  have HT2 := Aside0.mk HT
                  clear HT c3 c2
                  go_wp2
                  go_quiet ((go_at_call 30; (with_reducible refine Calls.quiet_of (mark_calls _ g _ c0 b at3 V3 op3 row3 base3 dash3 (H3.out.q.drewN _) at3 (by omega) (by omega)))))
                  go_wp2_with (first | (go_at_call 37; (with_reducible refine (line_calls _ g _ c0 b at3 V3 op3 row3 base3 dash3 (by first | exact H3.out.q | exact H3.out.q.drewN _ | exact (H3.out.q.drewN _).drewN _) _ (by omega) (by omega)).mono ?_); rintro e w1 ⟨rfl, n1, rfl⟩))
                  go_quiet ((first | (go_at_call 34; (with_reducible refine calls_more (blanks_calls _ g _ c0 b at3 V3 op3 row3 base3 dash3 (H3.out.q.drewN _) at3 (by omega) (by omega)))) | (go_at_call 32; (with_reducible refine calls_more (spaces_calls _ g _ c0 b at3 V3 op3 row3 base3 dash3 (H3.out.q.drewN _) at3 (by omega) (by omega))))))
                  
                  go_wp2
                  first | rw [Exit.noGoto_ret] | rw [Exit.noGoto_normal] | skip
                  first | go_end0 | ((try simp only [Exit.inBlock, Exit.then]); refine bodyPost_ret (results_none rfl _ _ _) rfl ?_)
                  exact ⟨rfl, by rw [← HT2.out]; exact ⟨V3, (show SR w0 _ g _ c0 b at3 V3 l3 op3 row3 base3 dash3 from by repeat (first | exact H3.out | exact H3.out.drewN _ | exact (H3.out.drewN _).drewN _ | (with_reducible first | apply SR.set1 | apply SR.set3 | apply SR.set4 | apply SR.set5 | apply SR.set6)))⟩⟩
                · have d4 : decide (spaces b at3 - at3 ≤ bs) = false := decide_eq_false c4
                  rw [if_neg (fun h => c4 h.2)] at HT
                  have HT2 := Aside0.mk HT
                  clear HT c3 c2
                  go_wp2
                  go_quiet ((go_at_call 30; (with_reducible refine Calls.quiet_of (mark_calls _ g _ c0 b at3 V3 op3 row3 base3 dash3 (H3.out.q.drewN _) at3 (by omega) (by omega)))))
                  go_wp2_with (first | (go_at_call 37; (with_reducible refine (line_calls _ g _ c0 b at3 V3 op3 row3 base3 dash3 (by first | exact H3.out.q | exact H3.out.q.drewN _ | exact (H3.out.q.drewN _).drewN _) _ (by omega) (by omega)).mono ?_); rintro e w1 ⟨rfl, n1, rfl⟩))
                  go_quiet ((first | (go_at_call 34; (with_reducible refine calls_more (blanks_calls _ g _ c0 b at3 V3 op3 row3 base3 dash3 (H3.out.q.drewN _) at3 (by omega) (by omega)))) | (go_at_call 32; (with_reducible refine calls_more (spaces_calls _ g _ c0 b at3 V3 op3 row3 base3 dash3 (H3.out.q.drewN _) at3 (by omega) (by omega))))))
                  go_wp2_with (first | (go_at_call 33; (with_reducible refine (brk_calls _ g _ c0 b at3 V3 op3 row3 base3 dash3 (by first | exact H3.out.q | exact H3.out.q.drewN _ | exact (H3.out.q.drewN _).drewN _) _ (by omega) (by omega)).mono ?_); rintro e w1 ⟨rfl, n1, rfl⟩) | (go_at_call 31; (with_reducible refine (token_calls w0 _ g _ c0 b at3 V3 l3 op3 row3 base3 dash3 (by repeat (first | exact H3.out | exact H3.out.drewN _ | exact (H3.out.drewN _).drewN _ | (with_reducible first | apply SR.set1 | apply SR.set3 | apply SR.set4 | apply SR.set5 | apply SR.set6))) _ _ (by omega) (by omega) (by omega) (by omega) (by omega)).mono ?_); rintro e w2 ⟨rfl, V5, h2⟩; have H5 := Aside0.mk h2; have gc0 := h2.q.cell0; have gc1 := h2.q.cell1; have gc2 := h2.q.cell2; have gc3 := h2.q.cell3; have gc4 := h2.q.cell4; have gc5 := h2.q.cell5; have gc6 := h2.q.cell6; have gf1 := blk_frozen h2.q.blk 1; have gf3 := blk_frozen h2.q.blk 3; have gf4 := blk_frozen h2.q.blk 4; have gf5 := blk_frozen h2.q.blk 5; have gf6 := blk_frozen h2.q.blk 6; clear h2))
                  go_roundg m
                  case measure => omega
                  case rel => exact ⟨tk 19 (line b at3 + brk b (line b at3)) ⟨at3, l3, op3, row3, base3, dash3⟩, ⟨⟨K3.out.tk 19 (by dsimp only; omega) lm1, HT2.out, by dsimp only [tk]; have := HM.out; omega⟩⟩, ⟨⟨V5, H5.out⟩⟩⟩
            · have d2 : (mark b at3 == 0) = false := beq_eq_false_iff_ne.mpr c2
              have HT : (⟨at3, l3, op3, row3, base3, dash3⟩ : St) = texts b bs ⟨at_, l, op, row, base, dash⟩ := by
                have h_ := HX.out.2.1
                cases gk with
                | zero => exact h_
                | succ m => simp only [textRows] at h_; rwa [if_neg (fun h => c2 h.2)] at h_
              have HT2 := Aside0.mk HT
              clear HT HX c2
              go_wp2
              go_quiet ((go_at_call 30; (with_reducible refine Calls.quiet_of (mark_calls _ g _ c0 b at3 V3 op3 row3 base3 dash3 (H3.out.q.drewN _) at3 (by omega) (by omega)))))
              go_wp2_with (first | (go_at_call 37; (with_reducible refine (line_calls _ g _ c0 b at3 V3 op3 row3 base3 dash3 (by first | exact H3.out.q | exact H3.out.q.drewN _ | exact (H3.out.q.drewN _).drewN _) _ (by omega) (by omega)).mono ?_); rintro e w1 ⟨rfl, n1, rfl⟩))
              go_wp2
              first | rw [Exit.noGoto_ret] | rw [Exit.noGoto_normal] | skip
              first | go_end0 | ((try simp only [Exit.inBlock, Exit.then]); refine bodyPost_ret (results_none rfl _ _ _) rfl ?_)
              exact ⟨rfl, by rw [← HT2.out]; exact ⟨V3, (show SR w0 _ g _ c0 b at3 V3 l3 op3 row3 base3 dash3 from by repeat (first | exact H3.out | exact H3.out.drewN _ | exact (H3.out.drewN _).drewN _ | (with_reducible first | apply SR.set1 | apply SR.set3 | apply SR.set4 | apply SR.set5 | apply SR.set6)))⟩⟩
          · have d1 : decide (at3 < (b.length : Int)) = false := decide_eq_false c1
            have HT : (⟨at3, l3, op3, row3, base3, dash3⟩ : St) = texts b bs ⟨at_, l, op, row, base, dash⟩ := by
              have h_ := HX.out.2.1
              cases gk with
              | zero => exact h_
              | succ m => simp only [textRows] at h_; rwa [if_neg (fun h => c1 h.1)] at h_
            have HT2 := Aside0.mk HT
            clear HT HX c1
            go_wp2
            go_quiet ((go_at_call 30; (with_reducible refine Calls.quiet_of (mark_calls _ g _ c0 b at3 V3 op3 row3 base3 dash3 (H3.out.q.drewN _) at3 (by omega) (by omega)))))
            go_wp2_with (first | (go_at_call 37; (with_reducible refine (line_calls _ g _ c0 b at3 V3 op3 row3 base3 dash3 (by first | exact H3.out.q | exact H3.out.q.drewN _ | exact (H3.out.q.drewN _).drewN _) _ (by omega) (by omega)).mono ?_); rintro e w1 ⟨rfl, n1, rfl⟩))
            go_wp2
            first | rw [Exit.noGoto_ret] | rw [Exit.noGoto_normal] | skip
            first | go_end0 | ((try simp only [Exit.inBlock, Exit.then]); refine bodyPost_ret (results_none rfl _ _ _) rfl ?_)
            exact ⟨rfl, by rw [← HT2.out]; exact ⟨V3, (show SR w0 _ g _ c0 b at3 V3 l3 op3 row3 base3 dash3 from by repeat (first | exact H3.out | exact H3.out.drewN _ | exact (H3.out.drewN _).drewN _ | (with_reducible first | apply SR.set1 | apply SR.set3 | apply SR.set4 | apply SR.set5 | apply SR.set6)))⟩⟩

end Go.Proofs.Ythoogadfhopkfaa.Sc
/- The scanner's function that reads a token of text. -/
namespace Go.Proofs.Ythoogadfhopkfaa.Sc
open Go.RowKit Go.Proofs.Ythoogadfhopkfaa.Q Go.Proofs.YthoogadfhopkfaaW.PrintWords Go.Proofs.YthoogadfhopkfaaW.PrintLast Go.Proofs.YthoogadfhopkfaaW.PrintMore
attribute [local go_sem] max2_int min2_int max_two min_two max_three min_three max_four min_four
set_option linter.unusedVariables false
set_option linter.unusedSimpArgs false
set_option maxHeartbeats 1000000
set_option maxRecDepth 100000

theorem headTo_le {b : List Int} {i : Int} (h : i < (b.length : Int)) : i < headTo b i ∧ headTo b i ≤ (b.length : Int) := by
  unfold headTo
  split
  · rename_i h_
    rcases Bool.or_eq_true _ _ |>.mp h_ with h_ | h_ <;> have := (th_true h_).1 <;> omega
  · omega
theorem head_le {b : List Int} {op i : Int} (h : i < (b.length : Int)) (h1 : 0 < head b op i) : i < head b op i ∧ head b op i ≤ (b.length : Int) := by
  have h2 := headTo_le h
  unfold head at h1 ⊢
  repeat' split
  all_goals simp_all

theorem text_calls (w0 W : World) (g : Nat) (A0 : Option Addr) (c0 : Nat) (b : List Int) (at_ : Int) (V : Value) (l : List S32) (op row base : Int) (dash : Bool) (hs : SR w0 W g A0 c0 b at_ V l op row base dash) (hk : Ok b ⟨at_, l, op, row, base, dash⟩) (h0 : 0 ≤ at_) (h1 : at_ < (b.length : Int)) :
    Calls Try.prog 22 #[.pointer (some ⟨g, 0, none⟩)] W fun e w' => e = .returned (.tuple #[]) ∧ SS w0 w' g A0 c0 b (textS b ⟨at_, l, op, row, base, dash⟩) := by
  have H := Aside0.mk hs
  have hc0 := hs.q.cell0
  have hc1 := hs.q.cell1
  have hc2 := hs.q.cell2
  have hc3 := hs.q.cell3
  have hc4 := hs.q.cell4
  have hc5 := hs.q.cell5
  have hc6 := hs.q.cell6
  have hf1 := blk_frozen hs.q.blk 1
  have hf3 := blk_frozen hs.q.blk 3
  have hf4 := blk_frozen hs.q.blk 4
  have hf5 := blk_frozen hs.q.blk 5
  have hf6 := blk_frozen hs.q.blk 6
  have hl := hs.q.len
  clear hs
  obtain ⟨ad, ea, hx⟩ := Kd.at_int H.out.q.C at_ h0 h1
  cases ea
  have q1 : (0 ≤ at_) = True := eq_true h0
  have q2 : (at_ < (b.length : Int)) = True := eq_true h1
  have hrow0 : 0 ≤ row := hk.r0
  have hrow1 : row ≤ at_ := hk.r1
  have hln : (l.length : Int) ≤ at_ := hk.n
  have hb0 : -1 ≤ base := hk.b0
  have hb1 : base ≤ at_ := hk.b1
  have HK := Aside0.mk hk
  clear hk
  by_cases c1 : rd b at_ = 39
  · have f1 : (rd b at_ == 39) = true := beq_iff_eq.mpr c1
    have hR : textS b ⟨at_, l, op, row, base, dash⟩ = tk 16 (single b at_) ⟨at_, l, op, row, base, dash⟩ := by unfold textS; exact if_pos c1
    rw [hR]
    clear hR c1
    go_enter Try.func22, Try.ntmps22
    go_wp2
    go_quiet (fail)
    go_wp2_with (first | (go_at_call 42; (with_reducible refine (single_calls _ g _ c0 b at_ V op row base dash (by first | exact H.out.q | exact H.out.q.drewN _) h0 h1).mono ?_); rintro e w1 ⟨rfl, n1, rfl⟩) | (go_at_call 31; (with_reducible refine (token_calls w0 _ g _ c0 b at_ V l op row base dash (by repeat (first | exact H.out | exact H.out.drewN _ | exact (H.out.drewN _).drewN _ | (with_reducible first | apply SR.set1 | apply SR.set3 | apply SR.set4 | apply SR.set5 | apply SR.set6))) _ _ (by omega) (by omega) (by omega) (by omega) (by omega)).mono ?_); rintro e w2 ⟨rfl, V2, h2⟩; have H2 := Aside0.mk h2; clear h2))
    first | go_end0 | ((try simp only [Exit.inBlock, Exit.then]); refine bodyPost_ret (results_none rfl _ _ _) rfl ?_)
    exact ⟨rfl, V2, H2.out⟩
  · have f1 : (rd b at_ == 39) = false := beq_eq_false_iff_ne.mpr c1
    by_cases c2 : rd b at_ = 34
    · have f2 : (rd b at_ == 34) = true := beq_iff_eq.mpr c2
      have hR : textS b ⟨at_, l, op, row, base, dash⟩ = tk 17 (double b at_) ⟨at_, l, op, row, base, dash⟩ := by unfold textS; exact (if_neg c1).trans (if_pos c2)
      rw [hR]
      clear hR c1 c2
      go_enter Try.func22, Try.ntmps22
      go_wp2
      go_quiet (fail)
      go_wp2_with (first | (go_at_call 43; (with_reducible refine (double_calls _ g _ c0 b at_ V op row base dash (by first | exact H.out.q | exact H.out.q.drewN _) h0 h1).mono ?_); rintro e w1 ⟨rfl, n1, rfl⟩) | (go_at_call 31; (with_reducible refine (token_calls w0 _ g _ c0 b at_ V l op row base dash (by repeat (first | exact H.out | exact H.out.drewN _ | exact (H.out.drewN _).drewN _ | (with_reducible first | apply SR.set1 | apply SR.set3 | apply SR.set4 | apply SR.set5 | apply SR.set6))) _ _ (by omega) (by omega) (by omega) (by omega) (by omega)).mono ?_); rintro e w2 ⟨rfl, V2, h2⟩; have H2 := Aside0.mk h2; clear h2))
      first | go_end0 | ((try simp only [Exit.inBlock, Exit.then]); refine bodyPost_ret (results_none rfl _ _ _) rfl ?_)
      exact ⟨rfl, V2, H2.out⟩
    · have f2 : (rd b at_ == 34) = false := beq_eq_false_iff_ne.mpr c2
      have hT : textS b ⟨at_, l, op, row, base, dash⟩ = if 0 < head b op at_ then texts b (if base < 0 then at_ - row - 1 else base) (tk 18 (head b op at_) ⟨at_, l, op, row, base, dash⟩) else if (nextS (strOfNums ((b.drop at_.toNat).take 4))).1 < 0 then tk 22 (at_ + 1) ⟨at_, l, op, row, base, dash⟩ else tk 15 (plain b op at_) ⟨at_, l, op, row, base, dash⟩ := by unfold textS; exact (if_neg c1).trans (if_neg c2)
      rw [hT]
      clear hT c1 c2
      by_cases c3 : 0 < head b op at_
      · have f3 : decide (head b op at_ > 0) = true := decide_eq_true c3
        have K2 : Aside0 (Ok b ⟨head b op at_, l ++ [⟨18, at_, head b op at_⟩], op, tkRow 18 (head b op at_) row, tkBase 18 at_ row base, tkDash 18 dash⟩) := ⟨HK.out.tk 18 (head_le h1 c3).1 (head_le h1 c3).2⟩
        rw [if_pos c3]
        have hq : 0 ≤ head b op at_ := by omega
        clear c3
        by_cases c4 : base < 0
        · have f4 : decide (base < 0) = true := decide_eq_true c4
          rw [if_pos c4]
          clear c4
          go_enter Try.func22, Try.ntmps22
          go_wp2
          go_quiet (fail)
          go_wp2_with (first | (go_at_call 44; (with_reducible refine (head_calls _ g _ c0 b at_ V op row base dash (by first | exact H.out.q | exact H.out.q.drewN _) h0 h1).mono ?_); rintro e w1 ⟨rfl, n1, rfl⟩) | (go_at_call 31; (with_reducible refine (token_calls w0 _ g _ c0 b at_ V l op row base dash (by repeat (first | exact H.out | exact H.out.drewN _ | exact (H.out.drewN _).drewN _ | (with_reducible first | apply SR.set1 | apply SR.set3 | apply SR.set4 | apply SR.set5 | apply SR.set6))) _ _ (by omega) (by omega) (by omega) (by omega) (by omega)).mono ?_); rintro e w2 ⟨rfl, V2, h2⟩; have H2 := Aside0.mk h2; clear h2) | (go_at_call 45; (with_reducible refine (texts_calls w0 _ g _ c0 b _ _ _ _ _ _ _ H2.out (at_ - row - 1) K2.out hq (by omega) (by omega)).mono ?_); rintro e w3 ⟨rfl, h3⟩; have H3 := Aside0.mk h3; clear h3))
          go_quiet (fail)
          go_wp2_with (first | (go_at_call 31; (with_reducible refine (token_calls w0 _ g _ c0 b at_ V l op row base dash (by repeat (first | exact H.out | exact H.out.drewN _ | exact (H.out.drewN _).drewN _ | (with_reducible first | apply SR.set1 | apply SR.set3 | apply SR.set4 | apply SR.set5 | apply SR.set6))) _ _ (by omega) (by omega) (by omega) (by omega) (by omega)).mono ?_); rintro e w2 ⟨rfl, V2, h2⟩; have H2 := Aside0.mk h2; clear h2) | (go_at_call 45; (with_reducible refine (texts_calls w0 _ g _ c0 b _ _ _ _ _ _ _ H2.out (at_ - row - 1) K2.out hq (by omega) (by omega)).mono ?_); rintro e w3 ⟨rfl, h3⟩; have H3 := Aside0.mk h3; clear h3))
          first | go_end0 | ((try simp only [Exit.inBlock, Exit.then]); refine bodyPost_ret (results_none rfl _ _ _) rfl ?_)
          exact ⟨rfl, H3.out⟩
        · have f4 : decide (base < 0) = false := decide_eq_false c4
          rw [if_neg c4]
          clear c4
          go_enter Try.func22, Try.ntmps22
          go_wp2
          go_quiet (fail)
          go_wp2_with (first | (go_at_call 44; (with_reducible refine (head_calls _ g _ c0 b at_ V op row base dash (by first | exact H.out.q | exact H.out.q.drewN _) h0 h1).mono ?_); rintro e w1 ⟨rfl, n1, rfl⟩) | (go_at_call 31; (with_reducible refine (token_calls w0 _ g _ c0 b at_ V l op row base dash (by repeat (first | exact H.out | exact H.out.drewN _ | exact (H.out.drewN _).drewN _ | (with_reducible first | apply SR.set1 | apply SR.set3 | apply SR.set4 | apply SR.set5 | apply SR.set6))) _ _ (by omega) (by omega) (by omega) (by omega) (by omega)).mono ?_); rintro e w2 ⟨rfl, V2, h2⟩; have H2 := Aside0.mk h2; clear h2) | (go_at_call 45; (with_reducible refine (texts_calls w0 _ g _ c0 b _ _ _ _ _ _ _ H2.out base K2.out hq (by omega) (by omega)).mono ?_); rintro e w3 ⟨rfl, h3⟩; have H3 := Aside0.mk h3; clear h3))
          first | go_end0 | ((try simp only [Exit.inBlock, Exit.then]); refine bodyPost_ret (results_none rfl _ _ _) rfl ?_)
          exact ⟨rfl, H3.out⟩
      · have f3 : decide (head b op at_ > 0) = false := decide_eq_false c3
        rw [if_neg c3]
        clear c3
        have q3 : (at_ ≤ (b.length : Int)) = True := eq_true (by omega)
        obtain ⟨i0, hi0, _, hsz, _⟩ := info_parts (P := Try.prog) info5
        obtain ⟨A2, hcut, hA, hcap⟩ := print_drop_of (P := Try.prog) (Value.int .u8) (0 : Int) 23 5 .i64 Try.underlying23 hi0 hsz (some ad) c0 b at_ h0 (by omega) H.out.q.cap
        have NC : Aside0 (∀ w' : World, Below w0.heap.size w0 w' → Kd.C (Kd.int .u8) w' A2 (b.drop at_.toNat).length (b.drop at_.toNat)) := ⟨fun w' hb => Kd.C_of_reads (h1 := fun _ => rfl) (hA w' (Kd.reads_of_C (Kd.C_below H.out.C hb)))⟩
        have hlen : 0 < (b.drop at_.toNat).length := by rw [List.length_drop]; omega
        have HF0 : runes_Next.f (b.drop at_.toNat) = some (nextS (strOfNums ((b.drop at_.toNat).take 4))) := by unfold runes_Next.f; rw [if_neg (by omega)]
        generalize hys : b.drop at_.toNat = ys at *
        clear hys hlen hA hi0 hsz
        have HCAP := Aside0.mk hcap
        generalize nextS (strOfNums (ys.take 4)) = r at *
        obtain ⟨r1, r2⟩ := r
        have HF := Aside0.mk HF0
        clear HF0 hcap
        dsimp only
        by_cases c5 : r1 < 0
        · have f5 : decide (r1 < 0) = true := decide_eq_true c5
          rw [if_pos c5]
          clear c5
          go_enter Try.func22, Try.ntmps22
          go_wp2
          go_quiet (fail)
          go_wp2_with (first | (go_at_call 44; (with_reducible refine (head_calls _ g _ c0 b at_ V op row base dash (by first | exact H.out.q | exact H.out.q.drewN _) h0 h1).mono ?_); rintro e w1 ⟨rfl, n1, rfl⟩))
          have H1 : Aside0 (SR w0 (W.drewN (nq + n1)) g (some ad) c0 b at_ V l op row base dash) := ⟨H.out.drewN _⟩
          generalize W.drewN (nq + n1) = w1 at *
          clear hc0 hc1 hc2 hc3 hc4 hc5 hc6 hf1 hf3 hf4 hf5 hf6 hx
          have hc0 := H1.out.q.cell0
          have hc1 := H1.out.q.cell1
          have hc2 := H1.out.q.cell2
          have hc3 := H1.out.q.cell3
          have hc4 := H1.out.q.cell4
          have hc5 := H1.out.q.cell5
          have hc6 := H1.out.q.cell6
          go_region_held3 (fun w' => w'.cell? ⟨g, 0, none⟩ = some (.slice (some ad) b.length c0) ∧ w'.cell? ⟨g, 1, none⟩ = some (.int .i64 at_)) (go_keep) ((go_at_call 46; (with_reducible refine (runes_Next.calls A2 (c0 - at_.toNat) ys r1 r2 _ (NC.out _ (below_drew H1.out.B)) HCAP.out HF.out).mono ?_); rintro e' w4 ⟨rfl, hb4⟩; have H4 := Aside0.mk (H1.out.below (below_then (below_drew (Below.refl _ _)) (Nat.le_refl _) hb4)); have kc0 := H4.out.q.cell0; have kc1 := H4.out.q.cell1; have kc2 := H4.out.q.cell2; have kc3 := H4.out.q.cell3; have kc4 := H4.out.q.cell4; have kc5 := H4.out.q.cell5; have kc6 := H4.out.q.cell6; clear hb4))
          go_wp2_with (first | (go_at_call 31; (with_reducible refine (token_calls w0 _ g _ c0 b at_ V l op row base dash (by repeat (first | exact H4.out | exact H4.out.drewN _ | exact (H4.out.drewN _).drewN _ | (with_reducible first | apply SR.set1 | apply SR.set3 | apply SR.set4 | apply SR.set5 | apply SR.set6))) _ _ (by omega) (by omega) (by omega) (by omega) (by omega)).mono ?_); rintro e w2 ⟨rfl, V2, h2⟩; have H2 := Aside0.mk h2; clear h2))
          first | go_end0 | ((try simp only [Exit.inBlock, Exit.then]); refine bodyPost_ret (results_none rfl _ _ _) rfl ?_)
          exact ⟨rfl, V2, H2.out⟩
        · have f5 : decide (r1 < 0) = false := decide_eq_false c5
          rw [if_neg c5]
          clear c5
          go_enter Try.func22, Try.ntmps22
          go_wp2
          go_quiet (fail)
          go_wp2_with (first | (go_at_call 44; (with_reducible refine (head_calls _ g _ c0 b at_ V op row base dash (by first | exact H.out.q | exact H.out.q.drewN _) h0 h1).mono ?_); rintro e w1 ⟨rfl, n1, rfl⟩))
          have H1 : Aside0 (SR w0 (W.drewN (nq + n1)) g (some ad) c0 b at_ V l op row base dash) := ⟨H.out.drewN _⟩
          generalize W.drewN (nq + n1) = w1 at *
          clear hc0 hc1 hc2 hc3 hc4 hc5 hc6 hf1 hf3 hf4 hf5 hf6 hx
          have hc0 := H1.out.q.cell0
          have hc1 := H1.out.q.cell1
          have hc2 := H1.out.q.cell2
          have hc3 := H1.out.q.cell3
          have hc4 := H1.out.q.cell4
          have hc5 := H1.out.q.cell5
          have hc6 := H1.out.q.cell6
          go_region_held3 (fun w' => w'.cell? ⟨g, 0, none⟩ = some (.slice (some ad) b.length c0) ∧ w'.cell? ⟨g, 1, none⟩ = some (.int .i64 at_)) (go_keep) ((go_at_call 46; (with_reducible refine (runes_Next.calls A2 (c0 - at_.toNat) ys r1 r2 _ (NC.out _ (below_drew H1.out.B)) HCAP.out HF.out).mono ?_); rintro e' w4 ⟨rfl, hb4⟩; have H4 := Aside0.mk (H1.out.below (below_then (below_drew (Below.refl _ _)) (Nat.le_refl _) hb4)); have kc0 := H4.out.q.cell0; have kc1 := H4.out.q.cell1; have kc2 := H4.out.q.cell2; have kc3 := H4.out.q.cell3; have kc4 := H4.out.q.cell4; have kc5 := H4.out.q.cell5; have kc6 := H4.out.q.cell6; clear hb4))
          go_wp2_with (first | (go_at_call 47; (with_reducible refine (plain_calls _ g _ c0 b at_ V op row base dash H4.out.q h0 h1).mono ?_); rintro e w5 ⟨rfl, hb5⟩; have H5 := Aside0.mk (H4.out.below hb5); clear hb5) | (go_at_call 31; (with_reducible refine (token_calls w0 _ g _ c0 b at_ V l op row base dash (by repeat (first | exact H5.out | exact H5.out.drewN _ | exact (H5.out.drewN _).drewN _ | (with_reducible first | apply SR.set1 | apply SR.set3 | apply SR.set4 | apply SR.set5 | apply SR.set6))) _ _ (by omega) (by omega) (by omega) (by omega) (by omega)).mono ?_); rintro e w2 ⟨rfl, V2, h2⟩; have H2 := Aside0.mk h2; clear h2))
          first | go_end0 | ((try simp only [Exit.inBlock, Exit.then]); refine bodyPost_ret (results_none rfl _ _ _) rfl ?_)
          exact ⟨rfl, V2, H2.out⟩

end Go.Proofs.Ythoogadfhopkfaa.Sc
