/- The scanner's functions that try to lay a token. -/
import Derived.Test.YthoogadfhopkfaaSC7
namespace Go.Proofs.Ythoogadfhopkfaa.Sc
open Go.RowKit Go.Proofs.Ythoogadfhopkfaa.Q Go.Proofs.YthoogadfhopkfaaW.PrintWords Go.Proofs.YthoogadfhopkfaaW.PrintLast Go.Proofs.YthoogadfhopkfaaW.PrintMore
attribute [local go_sem] max2_int min2_int max_two min_two max_three min_three max_four min_four
set_option linter.unusedVariables false
set_option linter.unusedSimpArgs false
set_option maxHeartbeats 1000000
set_option maxRecDepth 100000

/-- A quiet call, behind draws. -/
theorem calls_more {P : Program} {f : FuncId} {args : Array Value} {W : World} {j n : Nat} {v : Value} (h : Calls P f args (W.drewN (j + n)) fun e w' => e = .returned v ∧ ∃ m, w' = (W.drewN (j + n)).drewN m) :
    Calls P f args (W.drewN (j + n)) fun e w' => e = .returned v ∧ ∃ m, w' = W.drewN (j + m) := by
  refine h.mono ?_
  rintro e w' ⟨h1, m, rfl⟩
  exact ⟨h1, n + m, by rw [World.drewN_drewN, Nat.add_assoc]⟩
def SS (w0 W : World) (g : Nat) (A0 : Option Addr) (c0 : Nat) (b : List Int) (s : St) : Prop := ∃ V, SR w0 W g A0 c0 b s.at_ V s.l s.op s.row s.base s.dash

theorem begun_calls (w0 W : World) (g : Nat) (A0 : Option Addr) (c0 : Nat) (b : List Int) (at_ : Int) (V : Value) (l : List S32) (op row base : Int) (dash : Bool) (hs : SR w0 W g A0 c0 b at_ V l op row base dash) (h0 : 0 ≤ at_) (h1 : at_ < (b.length : Int)) (r0 : 0 ≤ row) (r1 : row ≤ at_) (hn : (l.length : Int) ≤ 16384) :
    Calls Try.prog 19 #[.pointer (some ⟨g, 0, none⟩)] W fun e w' => e = .returned (.bool (begunS b ⟨at_, l, op, row, base, dash⟩).isSome) ∧ SS w0 w' g A0 c0 b ((begunS b ⟨at_, l, op, row, base, dash⟩).getD ⟨at_, l, op, row, base, dash⟩) := by
  have H := Aside0.mk hs
  have hc0 := hs.q.cell0
  have hc1 := hs.q.cell1
  have hc2 := hs.q.cell2
  have hc3 := hs.q.cell3
  have hc4 := hs.q.cell4
  have hc5 := hs.q.cell5
  have hc6 := hs.q.cell6
  have hf1 := blk_frozen hs.q.blk 1
  have hf3 := blk_frozen hs.q.blk 3
  have hf4 := blk_frozen hs.q.blk 4
  have hf5 := blk_frozen hs.q.blk 5
  have hf6 := blk_frozen hs.q.blk 6
  have hl := hs.q.len
  clear hs
  have hsp := upto_le (n := (b.length : Int)) (i := at_) (p := fun j => rd b j == 32) (by omega)
  have sp0 : at_ ≤ spaces b at_ := hsp.1
  have sp1 : spaces b at_ ≤ (b.length : Int) := hsp.2
  clear hsp
  by_cases m : mark b at_ = 0
  · have m1 : (mark b at_ != 0) = false := bne_eq_false_iff_eq.mpr m
    by_cases p : at_ < spaces b at_
    · have p1 : decide (spaces b at_ > at_) = true := decide_eq_true p
      have hR : begunS b ⟨at_, l, op, row, base, dash⟩ = some (tk 2 (spaces b at_) ⟨at_, l, op, row, base, dash⟩) := by simp [begunS, m, p]
      rw [hR]
      clear hR m
      go_enter Try.func19, Try.ntmps19
      go_wp2_with (first | (go_at_call 30; (with_reducible refine (mark_calls _ g _ c0 b at_ V op row base dash (by first | exact H.out.q | exact H.out.q.drewN _ | exact (H.out.q.drewN _).drewN _) _ (by omega) (by omega)).mono ?_); rintro e w1 ⟨rfl, n1, rfl⟩) | (go_at_call 32; (with_reducible refine (spaces_calls _ g _ c0 b at_ V op row base dash (by first | exact H.out.q | exact H.out.q.drewN _ | exact (H.out.q.drewN _).drewN _) _ (by omega) (by omega)).mono ?_); rintro e w1 ⟨rfl, n1, rfl⟩) | (go_at_call 31; (with_reducible refine (token_calls w0 _ g _ c0 b at_ V l op row base dash (by repeat (first | exact H.out | exact H.out.drewN _ | exact (H.out.drewN _).drewN _ | (with_reducible first | apply SR.set1 | apply SR.set3 | apply SR.set4 | apply SR.set5 | apply SR.set6))) _ _ (by omega) (by omega) (by omega) (by omega) (by omega)).mono ?_); rintro e w2 ⟨rfl, V2, h2⟩; have H2 := Aside0.mk h2; clear h2))
      go_ret
      exact ⟨rfl, V2, H2.out⟩
    · have p1 : decide (spaces b at_ > at_) = false := decide_eq_false p
      have hR : begunS b ⟨at_, l, op, row, base, dash⟩ = none := by simp [begunS, m, p]
      rw [hR]
      clear hR m
      go_enter Try.func19, Try.ntmps19
      go_wp2_with (first | (go_at_call 30; (with_reducible refine (mark_calls _ g _ c0 b at_ V op row base dash (by first | exact H.out.q | exact H.out.q.drewN _ | exact (H.out.q.drewN _).drewN _) _ (by omega) (by omega)).mono ?_); rintro e w1 ⟨rfl, n1, rfl⟩) | (go_at_call 32; (with_reducible refine (spaces_calls _ g _ c0 b at_ V op row base dash (by first | exact H.out.q | exact H.out.q.drewN _ | exact (H.out.q.drewN _).drewN _) _ (by omega) (by omega)).mono ?_); rintro e w1 ⟨rfl, n1, rfl⟩))
      go_ret
      exact ⟨rfl, V, (show SR w0 _ g _ c0 b at_ V l op row base dash from by repeat (first | exact H.out | exact H.out.drewN _ | exact (H.out.drewN _).drewN _ | (with_reducible first | apply SR.set1 | apply SR.set3 | apply SR.set4 | apply SR.set5 | apply SR.set6)))⟩
  · have m1 : (mark b at_ != 0) = true := bne_iff_ne.mpr m
    have hR : begunS b ⟨at_, l, op, row, base, dash⟩ = some (tk (mark b at_) (at_ + 3) ⟨at_, l, 0, row, base, dash⟩) := by simp [begunS, m]
    rw [hR]
    clear hR m
    go_enter Try.func19, Try.ntmps19
    go_wp2_with (first | (go_at_call 30; (with_reducible refine (mark_calls _ g _ c0 b at_ V op row base dash (by first | exact H.out.q | exact H.out.q.drewN _ | exact (H.out.q.drewN _).drewN _) _ (by omega) (by omega)).mono ?_); rintro e w1 ⟨rfl, n1, rfl⟩) | (go_at_call 31; (with_reducible refine (token_calls w0 _ g _ c0 b at_ V l 0 row base dash (by repeat (first | exact H.out | exact H.out.drewN _ | exact (H.out.drewN _).drewN _ | (with_reducible first | apply SR.set1 | apply SR.set3 | apply SR.set4 | apply SR.set5 | apply SR.set6))) _ _ (by omega) (by omega) (by omega) (by omega) (by omega)).mono ?_); rintro e w2 ⟨rfl, V2, h2⟩; have H2 := Aside0.mk h2; clear h2))
    go_ret
    exact ⟨rfl, V2, H2.out⟩

theorem loose_calls (w0 W : World) (g : Nat) (A0 : Option Addr) (c0 : Nat) (b : List Int) (at_ : Int) (V : Value) (l : List S32) (op row base : Int) (dash : Bool) (hs : SR w0 W g A0 c0 b at_ V l op row base dash) (h0 : 0 ≤ at_) (h1 : at_ < (b.length : Int)) (r0 : 0 ≤ row) (r1 : row ≤ at_) (hn : (l.length : Int) ≤ 16384) :
    Calls Try.prog 20 #[.pointer (some ⟨g, 0, none⟩)] W fun e w' => e = .returned (.bool (looseS b ⟨at_, l, op, row, base, dash⟩).isSome) ∧ SS w0 w' g A0 c0 b ((looseS b ⟨at_, l, op, row, base, dash⟩).getD ⟨at_, l, op, row, base, dash⟩) := by
  obtain ⟨A2, c2, hv⟩ := Kd.R_slice hs.r
  have HV := Aside0.mk hv
  have HC := Aside0.mk (show Kd.C k32 W A2 l.length l from (Kd.R_reads' (hv ▸ hs.r)).2.2)
  clear hv
  have H := Aside0.mk hs
  have hc0 := hs.q.cell0
  have hc1 := hs.q.cell1
  have hc2 := hs.q.cell2
  have hc3 := hs.q.cell3
  have hc4 := hs.q.cell4
  have hc5 := hs.q.cell5
  have hc6 := hs.q.cell6
  have hf1 := blk_frozen hs.q.blk 1
  have hf3 := blk_frozen hs.q.blk 3
  have hf4 := blk_frozen hs.q.blk 4
  have hf5 := blk_frozen hs.q.blk 5
  have hf6 := blk_frozen hs.q.blk 6
  have hl := hs.q.len
  clear hs
  have hsp := upto_le (n := (b.length : Int)) (i := at_) (p := fun j => blank (rd b j)) (by omega)
  have sp0 : at_ ≤ blanks b at_ := hsp.1
  have sp1 : blanks b at_ ≤ (b.length : Int) := hsp.2
  clear hsp
  have hli := upto_le (n := (b.length : Int)) (i := at_) (p := fun j => brk b j == 0) (by omega)
  have li0 : at_ ≤ line b at_ := hli.1
  have li1 : line b at_ ≤ (b.length : Int) := hli.2
  clear hli
  have bk := brk_range b at_
  have bk0 := bk.1
  have bk1 := bk.2
  clear bk
  by_cases p : 0 < brk b at_
  · have p1 : decide (brk b at_ > 0) = true := decide_eq_true p
    have hR : looseS b ⟨at_, l, op, row, base, dash⟩ = some (tk 1 (at_ + brk b at_) ⟨at_, l, op, row, base, dash⟩) := by unfold looseS; rw [if_pos p]
    rw [hR]
    clear hR
    go_enter Try.func20, Try.ntmps20
    go_wp2_with (first | (go_at_call 33; (with_reducible refine (brk_calls _ g _ c0 b at_ V op row base dash (by first | exact H.out.q | exact H.out.q.drewN _ | exact (H.out.q.drewN _).drewN _) _ (by omega) (by omega)).mono ?_); rintro e w1 ⟨rfl, n1, rfl⟩) | (go_at_call 34; (with_reducible refine (blanks_calls _ g _ c0 b at_ V op row base dash (by first | exact H.out.q | exact H.out.q.drewN _ | exact (H.out.q.drewN _).drewN _) _ (by omega) (by omega)).mono ?_); rintro e w1 ⟨rfl, n1, rfl⟩) | (go_at_call 35; (with_reducible refine (last_calls _ g _ c0 b at_ V op row base dash (by first | exact H.out.q | exact H.out.q.drewN _ | exact (H.out.q.drewN _).drewN _) l A2 c2 HV.out (by first | exact HC.out | exact Kd.C_drewN HC.out _) (by omega)).mono ?_); rintro e w1 ⟨rfl, n1, rfl⟩) | (go_at_call 37; (with_reducible refine (line_calls _ g _ c0 b at_ V op row base dash (by first | exact H.out.q | exact H.out.q.drewN _ | exact (H.out.q.drewN _).drewN _) _ (by omega) (by omega)).mono ?_); rintro e w1 ⟨rfl, n1, rfl⟩) | (go_at_call 31; (with_reducible refine (token_calls w0 _ g _ c0 b at_ V l op row base dash (by repeat (first | exact H.out | exact H.out.drewN _ | exact (H.out.drewN _).drewN _ | (with_reducible first | apply SR.set1 | apply SR.set3 | apply SR.set4 | apply SR.set5 | apply SR.set6))) _ _ (by omega) (by omega) (by omega) (by omega) (by omega)).mono ?_); rintro e w2 ⟨rfl, V2, h2⟩; have H2 := Aside0.mk h2; clear h2))
    go_ret
    exact ⟨rfl, V2, H2.out⟩
  · have p1 : decide (brk b at_ > 0) = false := decide_eq_false p
    by_cases q : at_ < blanks b at_
    · have q1 : decide (blanks b at_ > at_) = true := decide_eq_true q
      have hR : looseS b ⟨at_, l, op, row, base, dash⟩ = some (tk 3 (blanks b at_) ⟨at_, l, op, row, base, dash⟩) := by unfold looseS; rw [if_neg p, if_pos q]
      rw [hR]
      clear hR
      go_enter Try.func20, Try.ntmps20
      go_wp2_with (first | (go_at_call 33; (with_reducible refine (brk_calls _ g _ c0 b at_ V op row base dash (by first | exact H.out.q | exact H.out.q.drewN _ | exact (H.out.q.drewN _).drewN _) _ (by omega) (by omega)).mono ?_); rintro e w1 ⟨rfl, n1, rfl⟩) | (go_at_call 34; (with_reducible refine (blanks_calls _ g _ c0 b at_ V op row base dash (by first | exact H.out.q | exact H.out.q.drewN _ | exact (H.out.q.drewN _).drewN _) _ (by omega) (by omega)).mono ?_); rintro e w1 ⟨rfl, n1, rfl⟩) | (go_at_call 35; (with_reducible refine (last_calls _ g _ c0 b at_ V op row base dash (by first | exact H.out.q | exact H.out.q.drewN _ | exact (H.out.q.drewN _).drewN _) l A2 c2 HV.out (by first | exact HC.out | exact Kd.C_drewN HC.out _) (by omega)).mono ?_); rintro e w1 ⟨rfl, n1, rfl⟩) | (go_at_call 37; (with_reducible refine (line_calls _ g _ c0 b at_ V op row base dash (by first | exact H.out.q | exact H.out.q.drewN _ | exact (H.out.q.drewN _).drewN _) _ (by omega) (by omega)).mono ?_); rintro e w1 ⟨rfl, n1, rfl⟩) | (go_at_call 31; (with_reducible refine (token_calls w0 _ g _ c0 b at_ V l op row base dash (by repeat (first | exact H.out | exact H.out.drewN _ | exact (H.out.drewN _).drewN _ | (with_reducible first | apply SR.set1 | apply SR.set3 | apply SR.set4 | apply SR.set5 | apply SR.set6))) _ _ (by omega) (by omega) (by omega) (by omega) (by omega)).mono ?_); rintro e w2 ⟨rfl, V2, h2⟩; have H2 := Aside0.mk h2; clear h2))
      go_ret
      exact ⟨rfl, V2, H2.out⟩
    · have q1 : decide (blanks b at_ > at_) = false := decide_eq_false q
      by_cases r : th b at_ 35 = true
      · by_cases a : at_ = row
        · have a1 : (at_ == row) = true := beq_iff_eq.mpr a
          have hR : looseS b ⟨at_, l, op, row, base, dash⟩ = some (tk 4 (line b at_) ⟨at_, l, op, row, base, dash⟩) := by unfold looseS; rw [if_neg p, if_neg q, if_pos ⟨r, .inl a⟩]
          rw [hR]
          clear hR a
          have TH : Aside0 (∀ W' : World, SQ W' g A0 c0 b at_ V op row base dash → Calls Try.prog 36 #[.pointer (some ⟨g, 0, none⟩), .int .i64 at_, .int .u8 35] W' fun e w' => e = .returned (.bool true) ∧ ∃ n, w' = W'.drewN n) := ⟨fun W' hq => by rw [← r]; exact there W' g A0 c0 b at_ V op row base dash hq at_ 35 (by omega)⟩
          go_enter Try.func20, Try.ntmps20
          go_wp2_with (first | (go_at_call 33; (with_reducible refine (brk_calls _ g _ c0 b at_ V op row base dash (by first | exact H.out.q | exact H.out.q.drewN _ | exact (H.out.q.drewN _).drewN _) _ (by omega) (by omega)).mono ?_); rintro e w1 ⟨rfl, n1, rfl⟩) | (go_at_call 34; (with_reducible refine (blanks_calls _ g _ c0 b at_ V op row base dash (by first | exact H.out.q | exact H.out.q.drewN _ | exact (H.out.q.drewN _).drewN _) _ (by omega) (by omega)).mono ?_); rintro e w1 ⟨rfl, n1, rfl⟩) | (go_at_call 35; (with_reducible refine (last_calls _ g _ c0 b at_ V op row base dash (by first | exact H.out.q | exact H.out.q.drewN _ | exact (H.out.q.drewN _).drewN _) l A2 c2 HV.out (by first | exact HC.out | exact Kd.C_drewN HC.out _) (by omega)).mono ?_); rintro e w1 ⟨rfl, n1, rfl⟩) | (go_at_call 37; (with_reducible refine (line_calls _ g _ c0 b at_ V op row base dash (by first | exact H.out.q | exact H.out.q.drewN _ | exact (H.out.q.drewN _).drewN _) _ (by omega) (by omega)).mono ?_); rintro e w1 ⟨rfl, n1, rfl⟩) | (go_at_call 31; (with_reducible refine (token_calls w0 _ g _ c0 b at_ V l op row base dash (by repeat (first | exact H.out | exact H.out.drewN _ | exact (H.out.drewN _).drewN _ | (with_reducible first | apply SR.set1 | apply SR.set3 | apply SR.set4 | apply SR.set5 | apply SR.set6))) _ _ (by omega) (by omega) (by omega) (by omega) (by omega)).mono ?_); rintro e w2 ⟨rfl, V2, h2⟩; have H2 := Aside0.mk h2; clear h2))
          go_quiet ((go_at_call 36; (with_reducible refine calls_more (TH.out _ (H.out.q.drewN _)))))
          go_wp2_with (first | (go_at_call 33; (with_reducible refine (brk_calls _ g _ c0 b at_ V op row base dash (by first | exact H.out.q | exact H.out.q.drewN _ | exact (H.out.q.drewN _).drewN _) _ (by omega) (by omega)).mono ?_); rintro e w1 ⟨rfl, n1, rfl⟩) | (go_at_call 34; (with_reducible refine (blanks_calls _ g _ c0 b at_ V op row base dash (by first | exact H.out.q | exact H.out.q.drewN _ | exact (H.out.q.drewN _).drewN _) _ (by omega) (by omega)).mono ?_); rintro e w1 ⟨rfl, n1, rfl⟩) | (go_at_call 35; (with_reducible refine (last_calls _ g _ c0 b at_ V op row base dash (by first | exact H.out.q | exact H.out.q.drewN _ | exact (H.out.q.drewN _).drewN _) l A2 c2 HV.out (by first | exact HC.out | exact Kd.C_drewN HC.out _) (by omega)).mono ?_); rintro e w1 ⟨rfl, n1, rfl⟩) | (go_at_call 37; (with_reducible refine (line_calls _ g _ c0 b at_ V op row base dash (by first | exact H.out.q | exact H.out.q.drewN _ | exact (H.out.q.drewN _).drewN _) _ (by omega) (by omega)).mono ?_); rintro e w1 ⟨rfl, n1, rfl⟩) | (go_at_call 31; (with_reducible refine (token_calls w0 _ g _ c0 b at_ V l op row base dash (by repeat (first | exact H.out | exact H.out.drewN _ | exact (H.out.drewN _).drewN _ | (with_reducible first | apply SR.set1 | apply SR.set3 | apply SR.set4 | apply SR.set5 | apply SR.set6))) _ _ (by omega) (by omega) (by omega) (by omega) (by omega)).mono ?_); rintro e w2 ⟨rfl, V2, h2⟩; have H2 := Aside0.mk h2; clear h2))
          go_ret
          exact ⟨rfl, V2, H2.out⟩
        · by_cases l2 : last l = 2
          · have a1 : (at_ == row) = false := beq_eq_false_iff_ne.mpr a
            have l21 : (last l == 2) = true := beq_iff_eq.mpr l2
            have hR : looseS b ⟨at_, l, op, row, base, dash⟩ = some (tk 4 (line b at_) ⟨at_, l, op, row, base, dash⟩) := by unfold looseS; rw [if_neg p, if_neg q, if_pos ⟨r, .inr (.inl l2)⟩]
            rw [hR]
            clear hR a l2
            have TH : Aside0 (∀ W' : World, SQ W' g A0 c0 b at_ V op row base dash → Calls Try.prog 36 #[.pointer (some ⟨g, 0, none⟩), .int .i64 at_, .int .u8 35] W' fun e w' => e = .returned (.bool true) ∧ ∃ n, w' = W'.drewN n) := ⟨fun W' hq => by rw [← r]; exact there W' g A0 c0 b at_ V op row base dash hq at_ 35 (by omega)⟩
            go_enter Try.func20, Try.ntmps20
            go_wp2_with (first | (go_at_call 33; (with_reducible refine (brk_calls _ g _ c0 b at_ V op row base dash (by first | exact H.out.q | exact H.out.q.drewN _ | exact (H.out.q.drewN _).drewN _) _ (by omega) (by omega)).mono ?_); rintro e w1 ⟨rfl, n1, rfl⟩) | (go_at_call 34; (with_reducible refine (blanks_calls _ g _ c0 b at_ V op row base dash (by first | exact H.out.q | exact H.out.q.drewN _ | exact (H.out.q.drewN _).drewN _) _ (by omega) (by omega)).mono ?_); rintro e w1 ⟨rfl, n1, rfl⟩) | (go_at_call 35; (with_reducible refine (last_calls _ g _ c0 b at_ V op row base dash (by first | exact H.out.q | exact H.out.q.drewN _ | exact (H.out.q.drewN _).drewN _) l A2 c2 HV.out (by first | exact HC.out | exact Kd.C_drewN HC.out _) (by omega)).mono ?_); rintro e w1 ⟨rfl, n1, rfl⟩) | (go_at_call 37; (with_reducible refine (line_calls _ g _ c0 b at_ V op row base dash (by first | exact H.out.q | exact H.out.q.drewN _ | exact (H.out.q.drewN _).drewN _) _ (by omega) (by omega)).mono ?_); rintro e w1 ⟨rfl, n1, rfl⟩) | (go_at_call 31; (with_reducible refine (token_calls w0 _ g _ c0 b at_ V l op row base dash (by repeat (first | exact H.out | exact H.out.drewN _ | exact (H.out.drewN _).drewN _ | (with_reducible first | apply SR.set1 | apply SR.set3 | apply SR.set4 | apply SR.set5 | apply SR.set6))) _ _ (by omega) (by omega) (by omega) (by omega) (by omega)).mono ?_); rintro e w2 ⟨rfl, V2, h2⟩; have H2 := Aside0.mk h2; clear h2))
            go_quiet ((go_at_call 36; (with_reducible refine calls_more (TH.out _ (H.out.q.drewN _)))))
            go_wp2_with (first | (go_at_call 33; (with_reducible refine (brk_calls _ g _ c0 b at_ V op row base dash (by first | exact H.out.q | exact H.out.q.drewN _ | exact (H.out.q.drewN _).drewN _) _ (by omega) (by omega)).mono ?_); rintro e w1 ⟨rfl, n1, rfl⟩) | (go_at_call 34; (with_reducible refine (blanks_calls _ g _ c0 b at_ V op row base dash (by first | exact H.out.q | exact H.out.q.drewN _ | exact (H.out.q.drewN _).drewN _) _ (by omega) (by omega)).mono ?_); rintro e w1 ⟨rfl, n1, rfl⟩) | (go_at_call 35; (with_reducible refine (last_calls _ g _ c0 b at_ V op row base dash (by first | exact H.out.q | exact H.out.q.drewN _ | exact (H.out.q.drewN _).drewN _) l A2 c2 HV.out (by first | exact HC.out | exact Kd.C_drewN HC.out _) (by omega)).mono ?_); rintro e w1 ⟨rfl, n1, rfl⟩) | (go_at_call 37; (with_reducible refine (line_calls _ g _ c0 b at_ V op row base dash (by first | exact H.out.q | exact H.out.q.drewN _ | exact (H.out.q.drewN _).drewN _) _ (by omega) (by omega)).mono ?_); rintro e w1 ⟨rfl, n1, rfl⟩) | (go_at_call 31; (with_reducible refine (token_calls w0 _ g _ c0 b at_ V l op row base dash (by repeat (first | exact H.out | exact H.out.drewN _ | exact (H.out.drewN _).drewN _ | (with_reducible first | apply SR.set1 | apply SR.set3 | apply SR.set4 | apply SR.set5 | apply SR.set6))) _ _ (by omega) (by omega) (by omega) (by omega) (by omega)).mono ?_); rintro e w2 ⟨rfl, V2, h2⟩; have H2 := Aside0.mk h2; clear h2))
            go_ret
            exact ⟨rfl, V2, H2.out⟩
          · by_cases l3 : last l = 3
            · have a1 : (at_ == row) = false := beq_eq_false_iff_ne.mpr a
              have l21 : (last l == 2) = false := beq_eq_false_iff_ne.mpr l2
              have l31 : (last l == 3) = true := beq_iff_eq.mpr l3
              have hR : looseS b ⟨at_, l, op, row, base, dash⟩ = some (tk 4 (line b at_) ⟨at_, l, op, row, base, dash⟩) := by unfold looseS; rw [if_neg p, if_neg q, if_pos ⟨r, .inr (.inr l3)⟩]
              rw [hR]
              clear hR a l2 l3
              have TH : Aside0 (∀ W' : World, SQ W' g A0 c0 b at_ V op row base dash → Calls Try.prog 36 #[.pointer (some ⟨g, 0, none⟩), .int .i64 at_, .int .u8 35] W' fun e w' => e = .returned (.bool true) ∧ ∃ n, w' = W'.drewN n) := ⟨fun W' hq => by rw [← r]; exact there W' g A0 c0 b at_ V op row base dash hq at_ 35 (by omega)⟩
              go_enter Try.func20, Try.ntmps20
              go_wp2_with (first | (go_at_call 33; (with_reducible refine (brk_calls _ g _ c0 b at_ V op row base dash (by first | exact H.out.q | exact H.out.q.drewN _ | exact (H.out.q.drewN _).drewN _) _ (by omega) (by omega)).mono ?_); rintro e w1 ⟨rfl, n1, rfl⟩) | (go_at_call 34; (with_reducible refine (blanks_calls _ g _ c0 b at_ V op row base dash (by first | exact H.out.q | exact H.out.q.drewN _ | exact (H.out.q.drewN _).drewN _) _ (by omega) (by omega)).mono ?_); rintro e w1 ⟨rfl, n1, rfl⟩) | (go_at_call 35; (with_reducible refine (last_calls _ g _ c0 b at_ V op row base dash (by first | exact H.out.q | exact H.out.q.drewN _ | exact (H.out.q.drewN _).drewN _) l A2 c2 HV.out (by first | exact HC.out | exact Kd.C_drewN HC.out _) (by omega)).mono ?_); rintro e w1 ⟨rfl, n1, rfl⟩) | (go_at_call 37; (with_reducible refine (line_calls _ g _ c0 b at_ V op row base dash (by first | exact H.out.q | exact H.out.q.drewN _ | exact (H.out.q.drewN _).drewN _) _ (by omega) (by omega)).mono ?_); rintro e w1 ⟨rfl, n1, rfl⟩) | (go_at_call 31; (with_reducible refine (token_calls w0 _ g _ c0 b at_ V l op row base dash (by repeat (first | exact H.out | exact H.out.drewN _ | exact (H.out.drewN _).drewN _ | (with_reducible first | apply SR.set1 | apply SR.set3 | apply SR.set4 | apply SR.set5 | apply SR.set6))) _ _ (by omega) (by omega) (by omega) (by omega) (by omega)).mono ?_); rintro e w2 ⟨rfl, V2, h2⟩; have H2 := Aside0.mk h2; clear h2))
              go_quiet ((go_at_call 36; (with_reducible refine calls_more (TH.out _ (H.out.q.drewN _)))))
              go_wp2_with (first | (go_at_call 33; (with_reducible refine (brk_calls _ g _ c0 b at_ V op row base dash (by first | exact H.out.q | exact H.out.q.drewN _ | exact (H.out.q.drewN _).drewN _) _ (by omega) (by omega)).mono ?_); rintro e w1 ⟨rfl, n1, rfl⟩) | (go_at_call 34; (with_reducible refine (blanks_calls _ g _ c0 b at_ V op row base dash (by first | exact H.out.q | exact H.out.q.drewN _ | exact (H.out.q.drewN _).drewN _) _ (by omega) (by omega)).mono ?_); rintro e w1 ⟨rfl, n1, rfl⟩) | (go_at_call 35; (with_reducible refine (last_calls _ g _ c0 b at_ V op row base dash (by first | exact H.out.q | exact H.out.q.drewN _ | exact (H.out.q.drewN _).drewN _) l A2 c2 HV.out (by first | exact HC.out | exact Kd.C_drewN HC.out _) (by omega)).mono ?_); rintro e w1 ⟨rfl, n1, rfl⟩) | (go_at_call 37; (with_reducible refine (line_calls _ g _ c0 b at_ V op row base dash (by first | exact H.out.q | exact H.out.q.drewN _ | exact (H.out.q.drewN _).drewN _) _ (by omega) (by omega)).mono ?_); rintro e w1 ⟨rfl, n1, rfl⟩) | (go_at_call 31; (with_reducible refine (token_calls w0 _ g _ c0 b at_ V l op row base dash (by repeat (first | exact H.out | exact H.out.drewN _ | exact (H.out.drewN _).drewN _ | (with_reducible first | apply SR.set1 | apply SR.set3 | apply SR.set4 | apply SR.set5 | apply SR.set6))) _ _ (by omega) (by omega) (by omega) (by omega) (by omega)).mono ?_); rintro e w2 ⟨rfl, V2, h2⟩; have H2 := Aside0.mk h2; clear h2))
              go_ret
              exact ⟨rfl, V2, H2.out⟩
            · have a1 : (at_ == row) = false := beq_eq_false_iff_ne.mpr a
              have l21 : (last l == 2) = false := beq_eq_false_iff_ne.mpr l2
              have l31 : (last l == 3) = false := beq_eq_false_iff_ne.mpr l3
              have hR : looseS b ⟨at_, l, op, row, base, dash⟩ = none := by unfold looseS; rw [if_neg p, if_neg q, if_neg (fun h => h.2.elim a (fun h => h.elim l2 l3))]
              rw [hR]
              clear hR a l2 l3
              have TH : Aside0 (∀ W' : World, SQ W' g A0 c0 b at_ V op row base dash → Calls Try.prog 36 #[.pointer (some ⟨g, 0, none⟩), .int .i64 at_, .int .u8 35] W' fun e w' => e = .returned (.bool true) ∧ ∃ n, w' = W'.drewN n) := ⟨fun W' hq => by rw [← r]; exact there W' g A0 c0 b at_ V op row base dash hq at_ 35 (by omega)⟩
              go_enter Try.func20, Try.ntmps20
              go_wp2_with (first | (go_at_call 33; (with_reducible refine (brk_calls _ g _ c0 b at_ V op row base dash (by first | exact H.out.q | exact H.out.q.drewN _ | exact (H.out.q.drewN _).drewN _) _ (by omega) (by omega)).mono ?_); rintro e w1 ⟨rfl, n1, rfl⟩) | (go_at_call 34; (with_reducible refine (blanks_calls _ g _ c0 b at_ V op row base dash (by first | exact H.out.q | exact H.out.q.drewN _ | exact (H.out.q.drewN _).drewN _) _ (by omega) (by omega)).mono ?_); rintro e w1 ⟨rfl, n1, rfl⟩) | (go_at_call 35; (with_reducible refine (last_calls _ g _ c0 b at_ V op row base dash (by first | exact H.out.q | exact H.out.q.drewN _ | exact (H.out.q.drewN _).drewN _) l A2 c2 HV.out (by first | exact HC.out | exact Kd.C_drewN HC.out _) (by omega)).mono ?_); rintro e w1 ⟨rfl, n1, rfl⟩) | (go_at_call 37; (with_reducible refine (line_calls _ g _ c0 b at_ V op row base dash (by first | exact H.out.q | exact H.out.q.drewN _ | exact (H.out.q.drewN _).drewN _) _ (by omega) (by omega)).mono ?_); rintro e w1 ⟨rfl, n1, rfl⟩) | (go_at_call 31; (with_reducible refine (token_calls w0 _ g _ c0 b at_ V l op row base dash (by repeat (first | exact H.out | exact H.out.drewN _ | exact (H.out.drewN _).drewN _ | (with_reducible first | apply SR.set1 | apply SR.set3 | apply SR.set4 | apply SR.set5 | apply SR.set6))) _ _ (by omega) (by omega) (by omega) (by omega) (by omega)).mono ?_); rintro e w2 ⟨rfl, V2, h2⟩; have H2 := Aside0.mk h2; clear h2))
              go_quiet ((go_at_call 36; (with_reducible refine calls_more (TH.out _ (H.out.q.drewN _)))))
              go_wp2_with (first | (go_at_call 33; (with_reducible refine (brk_calls _ g _ c0 b at_ V op row base dash (by first | exact H.out.q | exact H.out.q.drewN _ | exact (H.out.q.drewN _).drewN _) _ (by omega) (by omega)).mono ?_); rintro e w1 ⟨rfl, n1, rfl⟩) | (go_at_call 34; (with_reducible refine (blanks_calls _ g _ c0 b at_ V op row base dash (by first | exact H.out.q | exact H.out.q.drewN _ | exact (H.out.q.drewN _).drewN _) _ (by omega) (by omega)).mono ?_); rintro e w1 ⟨rfl, n1, rfl⟩) | (go_at_call 35; (with_reducible refine (last_calls _ g _ c0 b at_ V op row base dash (by first | exact H.out.q | exact H.out.q.drewN _ | exact (H.out.q.drewN _).drewN _) l A2 c2 HV.out (by first | exact HC.out | exact Kd.C_drewN HC.out _) (by omega)).mono ?_); rintro e w1 ⟨rfl, n1, rfl⟩) | (go_at_call 37; (with_reducible refine (line_calls _ g _ c0 b at_ V op row base dash (by first | exact H.out.q | exact H.out.q.drewN _ | exact (H.out.q.drewN _).drewN _) _ (by omega) (by omega)).mono ?_); rintro e w1 ⟨rfl, n1, rfl⟩) | (go_at_call 31; (with_reducible refine (token_calls w0 _ g _ c0 b at_ V l op row base dash (by repeat (first | exact H.out | exact H.out.drewN _ | exact (H.out.drewN _).drewN _ | (with_reducible first | apply SR.set1 | apply SR.set3 | apply SR.set4 | apply SR.set5 | apply SR.set6))) _ _ (by omega) (by omega) (by omega) (by omega) (by omega)).mono ?_); rintro e w2 ⟨rfl, V2, h2⟩; have H2 := Aside0.mk h2; clear h2))
              go_ret
              exact ⟨rfl, V, (show SR w0 _ g _ c0 b at_ V l op row base dash from by repeat (first | exact H.out | exact H.out.drewN _ | exact (H.out.drewN _).drewN _ | (with_reducible first | apply SR.set1 | apply SR.set3 | apply SR.set4 | apply SR.set5 | apply SR.set6)))⟩
      · replace r : th b at_ 35 = false := by simpa using r
        have hR : looseS b ⟨at_, l, op, row, base, dash⟩ = none := by unfold looseS; rw [if_neg p, if_neg q, if_neg (by simp [r])]
        rw [hR]
        clear hR
        have TH : Aside0 (∀ W' : World, SQ W' g A0 c0 b at_ V op row base dash → Calls Try.prog 36 #[.pointer (some ⟨g, 0, none⟩), .int .i64 at_, .int .u8 35] W' fun e w' => e = .returned (.bool false) ∧ ∃ n, w' = W'.drewN n) := ⟨fun W' hq => by rw [← r]; exact there W' g A0 c0 b at_ V op row base dash hq at_ 35 (by omega)⟩
        go_enter Try.func20, Try.ntmps20
        go_wp2_with (first | (go_at_call 33; (with_reducible refine (brk_calls _ g _ c0 b at_ V op row base dash (by first | exact H.out.q | exact H.out.q.drewN _ | exact (H.out.q.drewN _).drewN _) _ (by omega) (by omega)).mono ?_); rintro e w1 ⟨rfl, n1, rfl⟩) | (go_at_call 34; (with_reducible refine (blanks_calls _ g _ c0 b at_ V op row base dash (by first | exact H.out.q | exact H.out.q.drewN _ | exact (H.out.q.drewN _).drewN _) _ (by omega) (by omega)).mono ?_); rintro e w1 ⟨rfl, n1, rfl⟩) | (go_at_call 35; (with_reducible refine (last_calls _ g _ c0 b at_ V op row base dash (by first | exact H.out.q | exact H.out.q.drewN _ | exact (H.out.q.drewN _).drewN _) l A2 c2 HV.out (by first | exact HC.out | exact Kd.C_drewN HC.out _) (by omega)).mono ?_); rintro e w1 ⟨rfl, n1, rfl⟩) | (go_at_call 37; (with_reducible refine (line_calls _ g _ c0 b at_ V op row base dash (by first | exact H.out.q | exact H.out.q.drewN _ | exact (H.out.q.drewN _).drewN _) _ (by omega) (by omega)).mono ?_); rintro e w1 ⟨rfl, n1, rfl⟩) | (go_at_call 31; (with_reducible refine (token_calls w0 _ g _ c0 b at_ V l op row base dash (by repeat (first | exact H.out | exact H.out.drewN _ | exact (H.out.drewN _).drewN _ | (with_reducible first | apply SR.set1 | apply SR.set3 | apply SR.set4 | apply SR.set5 | apply SR.set6))) _ _ (by omega) (by omega) (by omega) (by omega) (by omega)).mono ?_); rintro e w2 ⟨rfl, V2, h2⟩; have H2 := Aside0.mk h2; clear h2))
        go_quiet ((go_at_call 36; (with_reducible refine calls_more (TH.out _ (H.out.q.drewN _)))))
        go_wp2_with (first | (go_at_call 33; (with_reducible refine (brk_calls _ g _ c0 b at_ V op row base dash (by first | exact H.out.q | exact H.out.q.drewN _ | exact (H.out.q.drewN _).drewN _) _ (by omega) (by omega)).mono ?_); rintro e w1 ⟨rfl, n1, rfl⟩) | (go_at_call 34; (with_reducible refine (blanks_calls _ g _ c0 b at_ V op row base dash (by first | exact H.out.q | exact H.out.q.drewN _ | exact (H.out.q.drewN _).drewN _) _ (by omega) (by omega)).mono ?_); rintro e w1 ⟨rfl, n1, rfl⟩) | (go_at_call 35; (with_reducible refine (last_calls _ g _ c0 b at_ V op row base dash (by first | exact H.out.q | exact H.out.q.drewN _ | exact (H.out.q.drewN _).drewN _) l A2 c2 HV.out (by first | exact HC.out | exact Kd.C_drewN HC.out _) (by omega)).mono ?_); rintro e w1 ⟨rfl, n1, rfl⟩) | (go_at_call 37; (with_reducible refine (line_calls _ g _ c0 b at_ V op row base dash (by first | exact H.out.q | exact H.out.q.drewN _ | exact (H.out.q.drewN _).drewN _) _ (by omega) (by omega)).mono ?_); rintro e w1 ⟨rfl, n1, rfl⟩) | (go_at_call 31; (with_reducible refine (token_calls w0 _ g _ c0 b at_ V l op row base dash (by repeat (first | exact H.out | exact H.out.drewN _ | exact (H.out.drewN _).drewN _ | (with_reducible first | apply SR.set1 | apply SR.set3 | apply SR.set4 | apply SR.set5 | apply SR.set6))) _ _ (by omega) (by omega) (by omega) (by omega) (by omega)).mono ?_); rintro e w2 ⟨rfl, V2, h2⟩; have H2 := Aside0.mk h2; clear h2))
        go_ret
        exact ⟨rfl, V, (show SR w0 _ g _ c0 b at_ V l op row base dash from by repeat (first | exact H.out | exact H.out.drewN _ | exact (H.out.drewN _).drewN _ | (with_reducible first | apply SR.set1 | apply SR.set3 | apply SR.set4 | apply SR.set5 | apply SR.set6)))⟩

end Go.Proofs.Ythoogadfhopkfaa.Sc
/- The scanner's functions that try to lay a token of signs. -/
namespace Go.Proofs.Ythoogadfhopkfaa.Sc
open Go.RowKit Go.Proofs.Ythoogadfhopkfaa.Q Go.Proofs.YthoogadfhopkfaaW.PrintWords Go.Proofs.YthoogadfhopkfaaW.PrintLast Go.Proofs.YthoogadfhopkfaaW.PrintMore
attribute [local go_sem] max2_int min2_int max_two min_two max_three min_three max_four min_four
set_option linter.unusedVariables false
set_option linter.unusedSimpArgs false
set_option maxHeartbeats 1000000
set_option maxRecDepth 100000

theorem prop_le (b : List Int) (i : Int) (h0 : 0 ≤ i) (h1 : i < (b.length : Int)) : 0 ≤ (prop b i).2 ∧ (prop b i).2 ≤ (b.length : Int) := by
  have ht := upto_le (n := (b.length : Int)) (i := i + 1) (p := fun j => name (rd b j) || rd b j == 33) (by omega)
  have hn := upto_le (n := (b.length : Int)) (i := i + 1) (p := fun j => name (rd b j)) (by omega)
  unfold prop
  repeat' split
  all_goals simp only [tag, names] at *
  all_goals omega
theorem sign_calls (w0 W : World) (g : Nat) (A0 : Option Addr) (c0 : Nat) (b : List Int) (at_ : Int) (V : Value) (l : List S32) (op row base : Int) (dash : Bool) (hs : SR w0 W g A0 c0 b at_ V l op row base dash) (h0 : 0 ≤ at_) (h1 : at_ < (b.length : Int)) (r0 : 0 ≤ row) (r1 : row ≤ at_) (hn : (l.length : Int) ≤ 16384) (o0 : 0 ≤ op) (o1 : op ≤ 16384) :
    Calls Try.prog 21 #[.pointer (some ⟨g, 0, none⟩)] W fun e w' => e = .returned (.bool (signS b ⟨at_, l, op, row, base, dash⟩).isSome) ∧ SS w0 w' g A0 c0 b ((signS b ⟨at_, l, op, row, base, dash⟩).getD ⟨at_, l, op, row, base, dash⟩) := by
  have H := Aside0.mk hs
  have hc0 := hs.q.cell0
  have hc1 := hs.q.cell1
  have hc2 := hs.q.cell2
  have hc3 := hs.q.cell3
  have hc4 := hs.q.cell4
  have hc5 := hs.q.cell5
  have hc6 := hs.q.cell6
  have hf1 := blk_frozen hs.q.blk 1
  have hf3 := blk_frozen hs.q.blk 3
  have hf4 := blk_frozen hs.q.blk 4
  have hf5 := blk_frozen hs.q.blk 5
  have hf6 := blk_frozen hs.q.blk 6
  have hl := hs.q.len
  clear hs
  have BR := Aside0.mk (brackets_calls w0 W g A0 c0 b at_ V l op row base dash H.out h0 h1 o0 o1)
  by_cases k : (bra b op at_).1 = 0
  · have k2 : (bra b op at_).2 = op := by
      have h := k
      unfold bra at h ⊢
      repeat' split
      all_goals simp_all
    replace BR := BR.out
    rw [k, k2] at BR
    replace BR := Aside0.mk BR
    clear k2
    have hpr := prop_le b at_ h0 h1
    by_cases d : dashS b ⟨at_, l, op, row, base, dash⟩ = true
    · have ds : th b at_ 45 = true ∧ spc b (at_ + 1) = true ∧ op = 0 ∧ dash = true := by simpa [dashS] using d
      have t1 : th b at_ 45 = true := ds.1
      have t2 : spc b (at_ + 1) = true := ds.2.1
      have t3 : (op == 0) = true := beq_iff_eq.mpr ds.2.2.1
      have t4 : dash = true := ds.2.2.2
      have hR : signS b ⟨at_, l, op, row, base, dash⟩ = some (tk 5 (at_ + 1) ⟨at_, l, op, row, base, dash⟩) := by unfold signS; dsimp only; rw [if_neg (show ¬ (bra b op at_).1 ≠ 0 from fun h => h k), if_pos d]
      rw [hR]
      clear hR d ds
      go_enter Try.func21, Try.ntmps21
      go_wp2_with (first | (go_at_call 38; (with_reducible refine (BR.out).mono ?_); rintro e w2 ⟨rfl, h2⟩; have H3 := Aside0.mk h2; have gc0 := h2.q.cell0; have gc1 := h2.q.cell1; have gc2 := h2.q.cell2; have gc3 := h2.q.cell3; have gc4 := h2.q.cell4; have gc5 := h2.q.cell5; have gc6 := h2.q.cell6; have gf1 := blk_frozen h2.q.blk 1; have gf3 := blk_frozen h2.q.blk 3; have gf4 := blk_frozen h2.q.blk 4; have gf5 := blk_frozen h2.q.blk 5; have gf6 := blk_frozen h2.q.blk 6; clear h2) | (go_at_call 36; (with_reducible refine (there _ g _ c0 b at_ V op row base dash (by first | exact H3.out.q | exact H3.out.q.drewN _ | exact (H3.out.q.drewN _).drewN _) _ _ (by omega)).mono ?_); rintro e w1 ⟨rfl, n1, rfl⟩) | (go_at_call 39; (with_reducible refine (space_calls _ g _ c0 b at_ V op row base dash (by first | exact H3.out.q | exact H3.out.q.drewN _ | exact (H3.out.q.drewN _).drewN _) _ (by omega)).mono ?_); rintro e w1 ⟨rfl, n1, rfl⟩) | (go_at_call 40; (with_reducible refine (colon_calls _ g _ c0 b at_ V op row base dash (by first | exact H3.out.q | exact H3.out.q.drewN _ | exact (H3.out.q.drewN _).drewN _) _ (by omega) (by omega)).mono ?_); rintro e w1 ⟨rfl, n1, rfl⟩) | (go_at_call 41; (with_reducible refine (prop_calls _ g _ c0 b at_ V op row base dash (by first | exact H3.out.q | exact H3.out.q.drewN _ | exact (H3.out.q.drewN _).drewN _) (by omega) (by omega)).mono ?_); rintro e w1 ⟨rfl, n1, rfl⟩) | (go_at_call 31; (with_reducible refine (token_calls w0 _ g _ c0 b at_ V l op row base dash (by repeat (first | exact H3.out | exact H3.out.drewN _ | exact (H3.out.drewN _).drewN _ | (with_reducible first | apply SR.set1 | apply SR.set3 | apply SR.set4 | apply SR.set5 | apply SR.set6))) _ _ (by omega) (by omega) (by omega) (by omega) (by omega)).mono ?_); rintro e w2 ⟨rfl, V2, h2⟩; have H2 := Aside0.mk h2; clear h2))
      go_ret
      exact ⟨rfl, V2, H2.out⟩
    · have dd : th b at_ 45 = false ∨ (th b at_ 45 = true ∧ spc b (at_ + 1) = false) ∨ (th b at_ 45 = true ∧ spc b (at_ + 1) = true ∧ (op == 0) = false) ∨ (th b at_ 45 = true ∧ spc b (at_ + 1) = true ∧ (op == 0) = true ∧ dash = false) := by
        unfold dashS at d
        cases h1_ : th b at_ 45 <;> cases h2_ : spc b (at_ + 1) <;> cases h3_ : (op == 0) <;> cases h4_ : dash <;> simp_all
      have ND : ¬ dashS b ⟨at_, l, op, row, base, dash⟩ = true := d
      have ND := Aside0.mk ND
      clear d
      by_cases co : colon b op at_ = true
      · have hR : signS b ⟨at_, l, op, row, base, dash⟩ = some (tk 6 (at_ + 1) ⟨at_, l, op, row, base, dash⟩) := by unfold signS; dsimp only; rw [if_neg (show ¬ (bra b op at_).1 ≠ 0 from fun h => h k), if_neg ND.out, if_pos co]
        rw [hR]
        clear hR
        rcases dd with t1 | ⟨t1, t2⟩ | ⟨t1, t2, t3⟩ | ⟨t1, t2, t3, t4⟩
        all_goals
          go_enter Try.func21, Try.ntmps21
          go_wp2_with (first | (go_at_call 38; (with_reducible refine (BR.out).mono ?_); rintro e w2 ⟨rfl, h2⟩; have H3 := Aside0.mk h2; have gc0 := h2.q.cell0; have gc1 := h2.q.cell1; have gc2 := h2.q.cell2; have gc3 := h2.q.cell3; have gc4 := h2.q.cell4; have gc5 := h2.q.cell5; have gc6 := h2.q.cell6; have gf1 := blk_frozen h2.q.blk 1; have gf3 := blk_frozen h2.q.blk 3; have gf4 := blk_frozen h2.q.blk 4; have gf5 := blk_frozen h2.q.blk 5; have gf6 := blk_frozen h2.q.blk 6; clear h2) | (go_at_call 36; (with_reducible refine (there _ g _ c0 b at_ V op row base dash (by first | exact H3.out.q | exact H3.out.q.drewN _ | exact (H3.out.q.drewN _).drewN _) _ _ (by omega)).mono ?_); rintro e w1 ⟨rfl, n1, rfl⟩) | (go_at_call 39; (with_reducible refine (space_calls _ g _ c0 b at_ V op row base dash (by first | exact H3.out.q | exact H3.out.q.drewN _ | exact (H3.out.q.drewN _).drewN _) _ (by omega)).mono ?_); rintro e w1 ⟨rfl, n1, rfl⟩) | (go_at_call 40; (with_reducible refine (colon_calls _ g _ c0 b at_ V op row base dash (by first | exact H3.out.q | exact H3.out.q.drewN _ | exact (H3.out.q.drewN _).drewN _) _ (by omega) (by omega)).mono ?_); rintro e w1 ⟨rfl, n1, rfl⟩) | (go_at_call 41; (with_reducible refine (prop_calls _ g _ c0 b at_ V op row base dash (by first | exact H3.out.q | exact H3.out.q.drewN _ | exact (H3.out.q.drewN _).drewN _) (by omega) (by omega)).mono ?_); rintro e w1 ⟨rfl, n1, rfl⟩) | (go_at_call 31; (with_reducible refine (token_calls w0 _ g _ c0 b at_ V l op row base dash (by repeat (first | exact H3.out | exact H3.out.drewN _ | exact (H3.out.drewN _).drewN _ | (with_reducible first | apply SR.set1 | apply SR.set3 | apply SR.set4 | apply SR.set5 | apply SR.set6))) _ _ (by omega) (by omega) (by omega) (by omega) (by omega)).mono ?_); rintro e w2 ⟨rfl, V2, h2⟩; have H2 := Aside0.mk h2; clear h2))
          go_ret
          exact ⟨rfl, V2, H2.out⟩
      · have NC := Aside0.mk co
        replace co : colon b op at_ = false := by simpa using co
        by_cases pk : (prop b at_).1 = 0
        · have hR : signS b ⟨at_, l, op, row, base, dash⟩ = none := by unfold signS; dsimp only; rw [if_neg (show ¬ (bra b op at_).1 ≠ 0 from fun h => h k), if_neg ND.out, if_neg NC.out, if_neg (fun h => h pk)]
          rw [hR]
          clear hR
          have pk1 : ((prop b at_).1 != 0) = false := bne_eq_false_iff_eq.mpr pk
          clear pk
          rcases dd with t1 | ⟨t1, t2⟩ | ⟨t1, t2, t3⟩ | ⟨t1, t2, t3, t4⟩
          all_goals
            go_enter Try.func21, Try.ntmps21
            go_wp2_with (first | (go_at_call 38; (with_reducible refine (BR.out).mono ?_); rintro e w2 ⟨rfl, h2⟩; have H3 := Aside0.mk h2; have gc0 := h2.q.cell0; have gc1 := h2.q.cell1; have gc2 := h2.q.cell2; have gc3 := h2.q.cell3; have gc4 := h2.q.cell4; have gc5 := h2.q.cell5; have gc6 := h2.q.cell6; have gf1 := blk_frozen h2.q.blk 1; have gf3 := blk_frozen h2.q.blk 3; have gf4 := blk_frozen h2.q.blk 4; have gf5 := blk_frozen h2.q.blk 5; have gf6 := blk_frozen h2.q.blk 6; clear h2) | (go_at_call 36; (with_reducible refine (there _ g _ c0 b at_ V op row base dash (by first | exact H3.out.q | exact H3.out.q.drewN _ | exact (H3.out.q.drewN _).drewN _) _ _ (by omega)).mono ?_); rintro e w1 ⟨rfl, n1, rfl⟩) | (go_at_call 39; (with_reducible refine (space_calls _ g _ c0 b at_ V op row base dash (by first | exact H3.out.q | exact H3.out.q.drewN _ | exact (H3.out.q.drewN _).drewN _) _ (by omega)).mono ?_); rintro e w1 ⟨rfl, n1, rfl⟩) | (go_at_call 40; (with_reducible refine (colon_calls _ g _ c0 b at_ V op row base dash (by first | exact H3.out.q | exact H3.out.q.drewN _ | exact (H3.out.q.drewN _).drewN _) _ (by omega) (by omega)).mono ?_); rintro e w1 ⟨rfl, n1, rfl⟩) | (go_at_call 41; (with_reducible refine (prop_calls _ g _ c0 b at_ V op row base dash (by first | exact H3.out.q | exact H3.out.q.drewN _ | exact (H3.out.q.drewN _).drewN _) (by omega) (by omega)).mono ?_); rintro e w1 ⟨rfl, n1, rfl⟩) | (go_at_call 31; (with_reducible refine (token_calls w0 _ g _ c0 b at_ V l op row base dash (by repeat (first | exact H3.out | exact H3.out.drewN _ | exact (H3.out.drewN _).drewN _ | (with_reducible first | apply SR.set1 | apply SR.set3 | apply SR.set4 | apply SR.set5 | apply SR.set6))) _ _ (by omega) (by omega) (by omega) (by omega) (by omega)).mono ?_); rintro e w2 ⟨rfl, V2, h2⟩; have H2 := Aside0.mk h2; clear h2))
            go_ret
            exact ⟨rfl, V, (show SR w0 _ g _ c0 b at_ V l op row base dash from by repeat (first | exact H3.out | exact H3.out.drewN _ | exact (H3.out.drewN _).drewN _))⟩
        · have hR : signS b ⟨at_, l, op, row, base, dash⟩ = some (tk (prop b at_).1 (prop b at_).2 ⟨at_, l, op, row, base, dash⟩) := by unfold signS; dsimp only; rw [if_neg (show ¬ (bra b op at_).1 ≠ 0 from fun h => h k), if_neg ND.out, if_neg NC.out, if_pos pk]
          rw [hR]
          clear hR
          have pk1 : ((prop b at_).1 != 0) = true := bne_iff_ne.mpr pk
          clear pk
          rcases dd with t1 | ⟨t1, t2⟩ | ⟨t1, t2, t3⟩ | ⟨t1, t2, t3, t4⟩
          all_goals
            go_enter Try.func21, Try.ntmps21
            go_wp2_with (first | (go_at_call 38; (with_reducible refine (BR.out).mono ?_); rintro e w2 ⟨rfl, h2⟩; have H3 := Aside0.mk h2; have gc0 := h2.q.cell0; have gc1 := h2.q.cell1; have gc2 := h2.q.cell2; have gc3 := h2.q.cell3; have gc4 := h2.q.cell4; have gc5 := h2.q.cell5; have gc6 := h2.q.cell6; have gf1 := blk_frozen h2.q.blk 1; have gf3 := blk_frozen h2.q.blk 3; have gf4 := blk_frozen h2.q.blk 4; have gf5 := blk_frozen h2.q.blk 5; have gf6 := blk_frozen h2.q.blk 6; clear h2) | (go_at_call 36; (with_reducible refine (there _ g _ c0 b at_ V op row base dash (by first | exact H3.out.q | exact H3.out.q.drewN _ | exact (H3.out.q.drewN _).drewN _) _ _ (by omega)).mono ?_); rintro e w1 ⟨rfl, n1, rfl⟩) | (go_at_call 39; (with_reducible refine (space_calls _ g _ c0 b at_ V op row base dash (by first | exact H3.out.q | exact H3.out.q.drewN _ | exact (H3.out.q.drewN _).drewN _) _ (by omega)).mono ?_); rintro e w1 ⟨rfl, n1, rfl⟩) | (go_at_call 40; (with_reducible refine (colon_calls _ g _ c0 b at_ V op row base dash (by first | exact H3.out.q | exact H3.out.q.drewN _ | exact (H3.out.q.drewN _).drewN _) _ (by omega) (by omega)).mono ?_); rintro e w1 ⟨rfl, n1, rfl⟩) | (go_at_call 41; (with_reducible refine (prop_calls _ g _ c0 b at_ V op row base dash (by first | exact H3.out.q | exact H3.out.q.drewN _ | exact (H3.out.q.drewN _).drewN _) (by omega) (by omega)).mono ?_); rintro e w1 ⟨rfl, n1, rfl⟩) | (go_at_call 31; (with_reducible refine (token_calls w0 _ g _ c0 b at_ V l op row base dash (by repeat (first | exact H3.out | exact H3.out.drewN _ | exact (H3.out.drewN _).drewN _ | (with_reducible first | apply SR.set1 | apply SR.set3 | apply SR.set4 | apply SR.set5 | apply SR.set6))) _ _ (by omega) (by omega) (by omega) (by omega) (by omega)).mono ?_); rintro e w2 ⟨rfl, V2, h2⟩; have H2 := Aside0.mk h2; clear h2))
            go_ret
            exact ⟨rfl, V2, H2.out⟩
  · have k1 : ((bra b op at_).1 != 0) = true := bne_iff_ne.mpr k
    have hR : signS b ⟨at_, l, op, row, base, dash⟩ = some (tk (bra b op at_).1 (at_ + 1) ⟨at_, l, (bra b op at_).2, row, base, dash⟩) := by unfold signS; dsimp only; rw [if_pos k]
    rw [hR]
    clear hR k
    go_enter Try.func21, Try.ntmps21
    go_wp2_with (first | (go_at_call 38; (with_reducible refine (BR.out).mono ?_); rintro e w2 ⟨rfl, h2⟩; have H3 := Aside0.mk h2; have gc0 := h2.q.cell0; have gc1 := h2.q.cell1; have gc2 := h2.q.cell2; have gc3 := h2.q.cell3; have gc4 := h2.q.cell4; have gc5 := h2.q.cell5; have gc6 := h2.q.cell6; have gf1 := blk_frozen h2.q.blk 1; have gf3 := blk_frozen h2.q.blk 3; have gf4 := blk_frozen h2.q.blk 4; have gf5 := blk_frozen h2.q.blk 5; have gf6 := blk_frozen h2.q.blk 6; clear h2) | (go_at_call 31; (with_reducible refine (token_calls w0 _ g _ c0 b at_ V l (bra b op at_).2 row base dash (by repeat (first | exact H3.out | exact H3.out.drewN _ | exact (H3.out.drewN _).drewN _ | (with_reducible first | apply SR.set1 | apply SR.set3 | apply SR.set4 | apply SR.set5 | apply SR.set6))) _ _ (by omega) (by omega) (by omega) (by omega) (by omega)).mono ?_); rintro e w2 ⟨rfl, V2, h2⟩; have H2 := Aside0.mk h2; clear h2))
    go_ret
    exact ⟨rfl, V2, H2.out⟩

end Go.Proofs.Ythoogadfhopkfaa.Sc
