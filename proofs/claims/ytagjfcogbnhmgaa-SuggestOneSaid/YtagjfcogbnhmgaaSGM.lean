/- What may be done: the small functions of suggest. -/
import Derived.Test.YtagjfcogbnhmgaaQ0
import Derived.Test.YtagjfcogbnhmgaaH
import Derived.IntWalk
import Derived.Shelf.GgClosure.Gives
import Derived.Test.YtagjfcogbnhmgaaQstrings
import Derived.Deep.RegionHeld3
import Derived.Test.YtagjfcogbnhmgaaQslices
namespace Go.Proofs.Ytagjfcogbnhmgaa.Sg
open Go.RowKit Go.Proofs.Ytagjfcogbnhmgaa.Q Go.Proofs.YtagjfcogbnhmgaaW.PrintWords Go.Proofs.YtagjfcogbnhmgaaW.PrintLast Go.Proofs.YtagjfcogbnhmgaaW.PrintMore
attribute [local go_sem] max2_int min2_int max_two min_two max_three min_three max_four min_four
set_option linter.unusedVariables false
set_option linter.unusedSimpArgs false
set_option maxHeartbeats 1000000
set_option maxRecDepth 100000
def ed (a b : Int) (s : ByteArray) : Value := .agg #[.int .i64 a, .int .i64 b, .string s]
theorem dr0 (w : World) : ∃ n, w = w.drewN n := ⟨0, rfl⟩
theorem put_calls (W : World) (at_ : Int) (s : ByteArray) : Calls Try.prog 32 #[.int .i64 at_, .string s] W fun e w' => e = .returned (.iface 30 (ed at_ at_ s)) ∧ Below W.heap.size W w' := by
  have HB := Aside0.mk (Below.refl W.heap.size W)
  go_enter Try.func32, Try.ntmps32
  go_wp2
  go_ret
  exact ⟨rfl, by repeat (first | (with_reducible first | exact HB.out | apply below_alloc | apply pw_below_drewN | apply below_drew1) | exact HB.out)⟩
/-- The predicate of open: a bracket that stands at at_. -/
def isOpen (at_ : Int) (t : S48) : Bool := t.f1 == at_ && (t.f0 == 8 || t.f0 == 9)
def tk (t : S48) : Value := .agg #[.int .i64 t.f0, .int .i64 t.f1, .int .i64 t.f2]
theorem pred_calls (W : World) (B : Nat) (at_ : Int) (hc : W.cell? ⟨B, 0, none⟩ = some (.int .i64 at_)) (hB : B < W.heap.size) (t : S48) : Calls Try.prog 45 #[tk t, .pointer (some ⟨B, 0, none⟩)] W fun e w' => e = .returned (.bool (isOpen at_ t)) ∧ Below W.heap.size W w' := by
  have HB := Aside0.mk (Below.refl W.heap.size W)
  have hne : ¬ W.heap.size = B := by omega
  have hne2 : ¬ B = W.heap.size := by omega
  unfold isOpen tk
  have hu := Try.underlying48
  go_enter Try.func45, Try.ntmps45
  go_wp2
  repeat (go_quiet (fail); try go_wp2)
  all_goals
    go_ret
    refine ⟨?_, by repeat (first | (with_reducible first | exact HB.out | apply below_alloc | apply pw_below_drewN | apply below_drew1) | exact HB.out)⟩
    simp_all
end Go.Proofs.Ytagjfcogbnhmgaa.Sg
/- What may be done: which token an end bracket is for. -/
namespace Go.Proofs.Ytagjfcogbnhmgaa.Sg
open Go.RowKit Go.Proofs.Ytagjfcogbnhmgaa.Q Go.Proofs.YtagjfcogbnhmgaaW.PrintWords Go.Proofs.YtagjfcogbnhmgaaW.PrintLast Go.Proofs.YtagjfcogbnhmgaaW.PrintMore
attribute [local go_sem] max2_int min2_int max_two min_two max_three min_three max_four min_four
set_option linter.unusedVariables false
set_option linter.unusedSimpArgs false
set_option maxHeartbeats 1000000
set_option maxRecDepth 100000
/-- The first place at which p holds; -1: none. -/
def ix (p : S48 → Bool) : List S48 → Int → Int
  | [], _ => -1
  | t :: l, i => if p t = true then i else ix p l (i + 1)
theorem ix_drop {p : S48 → Bool} {l : List S48} {i : Nat} (h : i < l.length) : ix p (l.drop i) (i : Int) = if p (rd_T48 l (i : Int)) = true then (i : Int) else ix p (l.drop (i + 1)) ((i + 1 : Nat) : Int) := by
  rw [List.drop_eq_getElem_cons h]
  have e : rd_T48 l (i : Int) = l[i] := by
    unfold rd_T48
    rw [Int.toNat_natCast, List.getD_eq_getElem?_getD, List.getElem?_eq_getElem h]
    rfl
  rw [ix, e]
  rfl
theorem index_calls (W : World) (A1 : Option Addr) (c1 : Nat) (l : List S48) (hC : Kd.C k48 W A1 l.length l) (hl : l.length ≤ 1000000) (B : Nat) (at_ : Int) (hc : W.cell? ⟨B, 0, none⟩ = some (.int .i64 at_)) (hB : B < W.heap.size) :
    Calls Try.prog 44 #[.slice A1 l.length c1, .func (.func 45) #[] #[.pointer (some ⟨B, 0, none⟩)]] W fun e w' => e = .returned (.int .i64 (ix (isOpen at_) l 0)) ∧ Below W.heap.size W w' := by
  have HC := Aside0.mk hC
  have HB := Aside0.mk (Below.refl W.heap.size W)
  have HCC := Aside0.mk hc
  clear hC hc
  have hu := Try.underlying48
  have eg := enters_of Try.func45 (by kernel_rfl) rfl
  go_enter Try.func44, Try.ntmps44
  go_wp2
  go_loopg [5, 8] l.length (fun kq v5 v8 w' => ∃ i : Nat, v8 = .int .i64 i ∧ i ≤ l.length ∧ l.length - i ≤ kq ∧ Aside0 (ix (isOpen at_) (l.drop i) (i : Int) = ix (isOpen at_) l 0) ∧ Aside0 (Below W.heap.size W w'))
  case atStart => exact ⟨0, rfl, Nat.zero_le _, by omega, ⟨by rw [List.drop_zero]; rfl⟩, HB⟩
  case round =>
    obtain ⟨i, rfl, hi, hg, HI, HB2⟩ := hrel
    have HBB := HB2
    clear HB HB2
    have HI2 := HI.out
    clear HI
    by_cases c : (i : Int) < (l.length : Int)
    · have cb : decide ((i : Int) < (l.length : Int)) = true := decide_eq_true c
      obtain ⟨ad, ea, hx0, hx1, hx2⟩ := at_T48 (Kd.C_below HC.out HBB.out) (i : Int) (by omega) (by omega)
      cases ea
      rw [Int.toNat_natCast] at hx0 hx1 hx2
      have q1 : (0 ≤ (i : Int)) = True := eq_true (by omega)
      have q2 : ((i : Int) < (l.length : Int)) = True := eq_true c
      have hcall := pred_calls _ B at_ ((HBB.out.cell (p := ⟨B, 0, none⟩) hB).trans HCC.out) (Nat.lt_of_lt_of_le hB (below_size HBB.out)) (rd_T48 l (i : Int))
      rw [ix_drop (by omega)] at HI2
      unfold tk at hcall
      by_cases p : isOpen at_ (rd_T48 l (i : Int)) = true
      · rw [p] at hcall
        rw [if_pos p] at HI2
        have HI3 := Aside0.mk HI2
        clear HI2 p
        have H' := Aside0.mk hcall
        clear hcall
        go_wp2_with (fail)
        refine H'.out.mono ?_
        rintro e w' ⟨rfl, hb'⟩
        have HB3 := Aside0.mk (below_step HBB.out hb')
        clear hb'
        go_wp2
        go_ret
        exact ⟨by rw [← HI3.out]; rfl, HB3.out⟩
      · have p' : isOpen at_ (rd_T48 l (i : Int)) = false := by simpa using p
        rw [p'] at hcall
        rw [if_neg p] at HI2
        clear p p'
        have H' := Aside0.mk hcall
        have HI3 := Aside0.mk HI2
        clear hcall HI2
        go_wp2_with (fail)
        refine H'.out.mono ?_
        rintro e w' ⟨rfl, hb'⟩
        have HB3 := Aside0.mk (below_step HBB.out hb')
        clear hb'
        go_wp2
        go_roundg (l.length - (i + 1))
        case measure => omega
        case rel => exact ⟨i + 1, by (try simp); (try rfl), by omega, by omega, HI3, HB3⟩
    · have cb : decide ((i : Int) < (l.length : Int)) = false := decide_eq_false c
      have hil : i = l.length := by omega
      rw [hil, List.drop_length] at HI2
      have HI3 : Aside0 (ix (isOpen at_) l 0 = -1) := ⟨HI2.symm⟩
      clear HI2 hil
      go_wp2
      go_ret
      exact ⟨by rw [HI3.out]; rfl, by repeat (first | (with_reducible first | exact HBB.out | apply below_alloc | apply pw_below_drewN | apply below_drew1) | exact HBB.out)⟩
end Go.Proofs.Ytagjfcogbnhmgaa.Sg
/- What may be done: a sign, and the end of a bracket. -/
namespace Go.Proofs.Ytagjfcogbnhmgaa.Sg
open Go.RowKit Go.Proofs.Ytagjfcogbnhmgaa.Q Go.Proofs.YtagjfcogbnhmgaaW.PrintWords Go.Proofs.YtagjfcogbnhmgaaW.PrintLast Go.Proofs.YtagjfcogbnhmgaaW.PrintMore
attribute [local go_sem] max2_int min2_int max_two min_two max_three min_three max_four min_four
set_option linter.unusedVariables false
set_option linter.unusedSimpArgs false
set_option maxHeartbeats 4000000
set_option maxRecDepth 100000
/-- The mender's block. -/
structure MQ (W : World) (g : Nat) (A0 : Option Addr) (c0 : Nat) (b : List Int) (A1 : Option Addr) (c1 : Nat) (l : List S48) : Prop where
  blk : W.heap[g]? = some (.cells #[.slice A0 b.length c0, .slice A1 l.length c1] 42 (0, 0))
  C0 : Kd.C (Kd.int .u8) W A0 b.length b
  h0 : b.length ≤ c0
  C1 : Kd.C k48 W A1 l.length l
  h1 : l.length ≤ c1
  n0 : b.length ≤ 1000000
  n1 : l.length ≤ 1000000
section
variable {W : World} {g : Nat} {A0 : Option Addr} {c0 : Nat} {b : List Int} {A1 : Option Addr} {c1 : Nat} {l : List S48}
theorem MQ.below {W1 : World} (h : MQ W g A0 c0 b A1 c1 l) (hb : Below W.heap.size W W1) : MQ W1 g A0 c0 b A1 c1 l := ⟨blk_below h.blk hb, Kd.C_below h.C0 hb, h.h0, Kd.C_below h.C1 hb, h.h1, h.n0, h.n1⟩
theorem MQ.cell0 (h : MQ W g A0 c0 b A1 c1 l) : W.cell? ⟨g, 0, none⟩ = some (.slice A0 b.length c0) := (blk_cell h.blk 0).trans rfl
theorem MQ.cell1 (h : MQ W g A0 c0 b A1 c1 l) : W.cell? ⟨g, 1, none⟩ = some (.slice A1 l.length c1) := (blk_cell h.blk 1).trans rfl
theorem MQ.lt (h : MQ W g A0 c0 b A1 c1 l) : g < W.heap.size := (Array.getElem?_eq_some_iff.1 h.blk).1
end
/-- The byte at a place, as a text; none, if none is there. -/
def signF (b : List Int) (at_ : Int) : ByteArray := if at_ < 0 ∨ (b.length : Int) ≤ at_ then ⟨#[]⟩ else strOfNums ((b.take (at_ + 1).toNat).drop at_.toNat)
theorem sign_calls (W : World) (g : Nat) (A0 : Option Addr) (c0 : Nat) (b : List Int) (A1 : Option Addr) (c1 : Nat) (l : List S48) (hs : MQ W g A0 c0 b A1 c1 l) (at_ : Int) :
    Calls Try.prog 33 #[.pointer (some ⟨g, 0, none⟩), .int .i64 at_] W fun e w' => e = .returned (.string (signF b at_)) ∧ Below W.heap.size W w' := by
  have H := Aside0.mk hs
  have hc0 := hs.cell0
  have hn := hs.n0
  have HB := Aside0.mk (Below.refl W.heap.size W)
  clear hs
  by_cases c1 : at_ < 0
  · have d1 : decide (at_ < 0) = true := decide_eq_true c1
    have he : signF b at_ = ⟨#[]⟩ := by unfold signF; rw [if_pos (.inl c1)]
    rw [he]
    clear he
    go_enter Try.func33, Try.ntmps33
    go_wp2
    go_ret
    exact ⟨rfl, by repeat (first | (with_reducible first | exact HB.out | apply below_alloc | apply pw_below_drewN | apply below_drew1) | exact HB.out)⟩
  · have d1 : decide (at_ < 0) = false := decide_eq_false c1
    by_cases c2 : (b.length : Int) ≤ at_
    · have d2 : decide (at_ ≥ (b.length : Int)) = true := decide_eq_true c2
      have he : signF b at_ = ⟨#[]⟩ := by unfold signF; rw [if_pos (.inr c2)]
      rw [he]
      clear he
      go_enter Try.func33, Try.ntmps33
      go_wp2
      go_ret
      exact ⟨rfl, by repeat (first | (with_reducible first | exact HB.out | apply below_alloc | apply pw_below_drewN | apply below_drew1) | exact HB.out)⟩
    · have d2 : decide (at_ ≥ (b.length : Int)) = false := decide_eq_false (by omega)
      obtain ⟨i0, hi0, _, hsz, _⟩ := info_parts (P := Try.prog) info5
      obtain ⟨A2, hcut, hA, hcap⟩ := print_mid_of (P := Try.prog) (Value.int .u8) (0 : Int) 23 5 .i64 .i64 Try.underlying23 hi0 hsz A0 c0 b at_ (at_ + 1) (by omega) (by omega) (by omega) H.out.h0
      have hcv : (convert 23 9 (.slice A2 ((b.take (at_ + 1).toNat).drop at_.toNat).length (c0 - at_.toNat))).run Try.prog W = .ok (.string (strOfNums ((b.take (at_ + 1).toNat).drop at_.toNat))) W := Kd.C_string Try.underlying23 Try.underlying5 Try.underlying9 (Kd.C_of_reads (h1 := fun _ => rfl) (hA _ (Kd.reads_of_C H.out.C0)))
      clear hA hcap hi0 hsz
      have he : signF b at_ = strOfNums ((b.take (at_ + 1).toNat).drop at_.toNat) := by unfold signF; rw [if_neg (by omega)]
      rw [he]
      clear he
      generalize (b.take (at_ + 1).toNat).drop at_.toNat = xs at *
      generalize strOfNums xs = s at *
      have hw : wrap64 (at_ + 1) = at_ + 1 := by unfold wrap64; omega
      go_enter Try.func33, Try.ntmps33
      go_wp2
      go_ret
      exact ⟨rfl, by repeat (first | (with_reducible first | exact HB.out | apply below_alloc | apply pw_below_drewN | apply below_drew1) | exact HB.out)⟩
def cts (t : S48) : Bool := !(t.f0 == 1 || t.f0 == 2 || t.f0 == 3 || t.f0 == 4)
theorem counts_calls (W : World) (t : S48) : Calls Try.prog 46 #[.agg #[.int .i64 t.f0, .int .i64 t.f1, .int .i64 t.f2]] W fun e w' => e = .returned (.bool (cts t)) ∧ Below W.heap.size W w' := by
  have HB := Aside0.mk (Below.refl W.heap.size W)
  have hu := Try.underlying48
  unfold cts
  go_enter Try.func46, Try.ntmps46
  go_wp2
  repeat (go_quiet (fail); try go_wp2)
  all_goals
    go_ret
    refine ⟨?_, by repeat (first | (with_reducible first | exact HB.out | apply below_alloc | apply pw_below_drewN | apply below_drew1) | exact HB.out)⟩
    simp_all
/-- Up to where the row's tokens that count go. -/
def toF : List S48 → Int → Int
  | [], to_ => to_
  | t :: l, to_ => if t.f0 = 1 then to_ else toF l (if cts t = true then t.f2 else to_)
theorem rd_get (l : List S48) (i : Nat) (h : i < l.length) : rd_T48 l (i : Int) = l[i] := by
  unfold rd_T48
  rw [Int.toNat_natCast, List.getD_eq_getElem?_getD, List.getElem?_eq_getElem h]
  rfl
theorem toF_drop {l : List S48} {i : Nat} (h : i < l.length) (to_ : Int) : toF (l.drop i) to_ = if (rd_T48 l (i : Int)).f0 = 1 then to_ else toF (l.drop (i + 1)) (if cts (rd_T48 l (i : Int)) = true then (rd_T48 l (i : Int)).f2 else to_) := by
  rw [List.drop_eq_getElem_cons h, rd_get l i h, toF]
end Go.Proofs.Ytagjfcogbnhmgaa.Sg
/- What may be done: the end of a bracket, walked. -/
namespace Go.Proofs.Ytagjfcogbnhmgaa.Sg
open Go.RowKit Go.Proofs.Ytagjfcogbnhmgaa.Q Go.Proofs.YtagjfcogbnhmgaaW.PrintWords Go.Proofs.YtagjfcogbnhmgaaW.PrintLast Go.Proofs.YtagjfcogbnhmgaaW.PrintMore
attribute [local go_sem] max2_int min2_int max_two min_two max_three min_three max_four min_four
set_option linter.unusedVariables false
set_option linter.unusedSimpArgs false
set_option maxHeartbeats 4000000
set_option maxRecDepth 100000
def opn (at_ : Int) (l : List S48) : Option S30 :=
  if ix (isOpen at_) l 0 < 0 then none
  else some ⟨toF (l.drop (ix (isOpen at_) l 0).toNat) (rd_T48 l (ix (isOpen at_) l 0)).f2, toF (l.drop (ix (isOpen at_) l 0).toNat) (rd_T48 l (ix (isOpen at_) l 0)).f2, if (rd_T48 l (ix (isOpen at_) l 0)).f0 = 9 then ⟨#[125]⟩ else ⟨#[93]⟩⟩
def vOf : Option S30 → Value
  | none => .nilIface
  | some e => .iface 30 (ed e.f0 e.f1 e.f2)
theorem ix_range (p : S48 → Bool) : ∀ (l : List S48) (i : Int), ix p l i = -1 ∨ (i ≤ ix p l i ∧ ix p l i < i + l.length)
  | [], i => .inl rfl
  | t :: l, i => by
    rw [ix]
    split
    · right; simp; omega
    · rcases ix_range p l (i + 1) with h | h
      · exact .inl h
      · right; simp; omega
theorem open_calls (W : World) (g : Nat) (A0 : Option Addr) (c0 : Nat) (b : List Int) (A1 : Option Addr) (c1 : Nat) (l : List S48) (hs : MQ W g A0 c0 b A1 c1 l) (at_ : Int) :
    Calls Try.prog 34 #[.pointer (some ⟨g, 0, none⟩), .int .i64 at_] W fun e w' => e = .returned (vOf (opn at_ l)) ∧ Below W.heap.size W w' := by
  have H := Aside0.mk hs
  have hc1 := hs.cell1
  have hn := hs.n1
  have hlt := hs.lt
  have hne : ¬ g = W.heap.size := by omega
  have hne2 : ¬ W.heap.size = g := by omega
  have HB := Aside0.mk (Below.refl W.heap.size W)
  have hu := Try.underlying48
  clear hs
  go_enter Try.func34, Try.ntmps34
  go_wp2_with (fail)
  refine (index_calls (W.alloc (.cells #[.int .i64 at_] 3 (0, 0))) A1 c1 l (Kd.C_alloc H.out.C1 _) hn W.heap.size at_ ((blk_cell (blk_new W _) 0).trans rfl) (by simp)).mono ?_
  rintro e w1 ⟨rfl, hb1⟩
  have HB1 := Aside0.mk (below_step (below_alloc (Below.refl W.heap.size W) _) hb1)
  have H1 := Aside0.mk (MQ.below H.out HB1.out)
  have hr := ix_range (isOpen at_) l 0
  have HE : Aside0 (opn at_ l = opn at_ l) := ⟨rfl⟩
  have hc2 := H1.out.cell1
  clear hb1 hc1
  by_cases c : ix (isOpen at_) l 0 < 0
  · have d1 : decide (ix (isOpen at_) l 0 < 0) = true := decide_eq_true c
    have HR : Aside0 (opn at_ l = none) := ⟨by unfold opn; rw [if_pos c]⟩
    clear c hr
    go_wp2
    go_ret
    exact ⟨by rw [HR.out]; rfl, HB1.out⟩
  · have hlo : 0 ≤ ix (isOpen at_) l 0 ∧ ix (isOpen at_) l 0 < 0 + (l.length : Int) := hr.resolve_left (by omega)
    have d1 : decide (ix (isOpen at_) l 0 < 0) = false := decide_eq_false c
    have HR0 : Aside0 (opn at_ l = some ⟨toF (l.drop (ix (isOpen at_) l 0).toNat) (rd_T48 l (ix (isOpen at_) l 0)).f2, toF (l.drop (ix (isOpen at_) l 0).toNat) (rd_T48 l (ix (isOpen at_) l 0)).f2, if (rd_T48 l (ix (isOpen at_) l 0)).f0 = 9 then ⟨#[125]⟩ else ⟨#[93]⟩⟩) := ⟨by unfold opn; rw [if_neg c]⟩
    clear c hr HE
    generalize ix (isOpen at_) l 0 = I at *
    obtain ⟨n, rfl⟩ : ∃ n : Nat, I = n := ⟨I.toNat, by omega⟩
    rw [Int.toNat_natCast] at HR0
    obtain ⟨i0, hi0, _, hsz, _⟩ := info_parts (P := Try.prog) info48
    have hcut := cut_from (P := Try.prog) 24 48 .i64 Try.underlying24 hi0 3 hsz A1 l.length c1 (n : Int) (by omega) (by omega)
    rw [Int.toNat_natCast] at hcut
    have HD := Aside0.mk (Kd.C_drop (c := c1) (m := n) H.out.C1 (by omega) H.out.h1)
    have hsz3 : k48.sz = 3 := rfl
    rw [hsz3] at HD
    obtain ⟨ad, ea, hx0, hx1, hx2⟩ := at_T48 H1.out.C1 (n : Int) (by omega) (by omega)
    rw [Int.toNat_natCast] at hx0 hx1 hx2
    generalize (if c1 = n then A1 else A1.map (·.add (n * 3))) = A2 at *
    cases ea
    have q1 : (0 ≤ (n : Int)) = True := eq_true (by omega)
    have q2 : ((n : Int) < (l.length : Int)) = True := eq_true (by omega)
    have hdl : (l.drop n).length = l.length - n := List.length_drop
    rw [hdl] at HD
    clear hi0 hsz hsz3 hlo
    obtain ⟨T0, hT0⟩ : ∃ x, (rd_T48 l (n : Int)).f2 = x := ⟨_, rfl⟩
    rw [hT0] at hx2 HR0
    clear hT0
    have tail : ∀ (en : ByteArray) (fin : Int), True := fun _ _ => trivial
    clear tail
    obtain ⟨EN, hEN⟩ : ∃ x : ByteArray, (if (rd_T48 l (n : Int)).f0 = 9 then (⟨#[125]⟩ : ByteArray) else ⟨#[93]⟩) = x := ⟨_, rfl⟩
    rw [hEN] at HR0
    obtain ⟨m, hm⟩ : ∃ m, l.length - n = m := ⟨_, rfl⟩
    rw [hm] at HD hcut hdl
    generalize hL : l.drop n = L at *
    obtain ⟨R, hR⟩ : ∃ x, toF L T0 = x := ⟨_, rfl⟩
    rw [hR] at HR0
    have HR := HR0
    clear HR0
    have HT := Aside0.mk hR
    clear hR
    have HL := Aside0.mk hL
    clear hL
    by_cases k9 : (rd_T48 l (n : Int)).f0 = 9
    all_goals
      first
      | (rw [if_pos k9] at hEN; have d9 : ((rd_T48 l (n : Int)).f0 == 9) = true := beq_iff_eq.mpr k9)
      | (rw [if_neg k9] at hEN; have d9 : ((rd_T48 l (n : Int)).f0 == 9) = false := beq_eq_false_iff_ne.mpr k9)
      subst hEN
      clear k9
      go_wp2
      go_loopg [7, 9, 42] m (fun kq v7 v9 v42 w' => ∃ (j : Nat) (to_ : Int), v7 = .int .i64 to_ ∧ v42 = .int .i64 j ∧ j ≤ m ∧ m - j ≤ kq ∧ Aside0 (toF (L.drop j) to_ = R) ∧ Aside0 (Below W.heap.size W w'))
      case atStart => exact ⟨0, T0, rfl, rfl, Nat.zero_le _, by omega, ⟨by rw [List.drop_zero]; exact HT.out⟩, HB1⟩
      case round =>
        obtain ⟨j, to_, rfl, rfl, hj, hg, HI, HBB⟩ := hrel
        have HI2 := HI.out
        clear HI
        by_cases cj : (j : Int) < (m : Int)
        · have cb : decide ((j : Int) < (m : Int)) = true := decide_eq_true cj
          obtain ⟨ad2, ea2, hy0, hy1, hy2⟩ := at_T48 (Kd.C_below HD.out HBB.out) (j : Int) (by omega) cj
          rw [Int.toNat_natCast] at hy0 hy1 hy2
          cases ea2
          have s1 : (0 ≤ (j : Int)) = True := eq_true (by omega)
          have s2 : ((j : Int) < (m : Int)) = True := eq_true cj
          have hb0 := blk_new wr (.cells #[.int .i64 (rd_T48 L (j : Int)).f0, .int .i64 (rd_T48 L (j : Int)).f1, .int .i64 (rd_T48 L (j : Int)).f2] 48 (0, 0))
          have hz0 := (blk_cell hb0 0).trans rfl
          have hz1 := (blk_cell hb0 1).trans rfl
          have hz2 := (blk_cell hb0 2).trans rfl
          rw [toF_drop (by omega)] at HI2
          by_cases k1 : (rd_T48 L (j : Int)).f0 = 1
          · have e1 : ((rd_T48 L (j : Int)).f0 == 1) = true := beq_iff_eq.mpr k1
            rw [if_pos k1] at HI2
            subst HI2
            clear k1
            go_wp2_with (fail)
            refine (put_calls _ _ _).mono ?_
            rintro e w5 ⟨rfl, hb5⟩
            have HB9 := Aside0.mk (below_step (by repeat (first | (with_reducible first | exact HBB.out | apply below_alloc | apply pw_below_drewN | apply below_drew1) | exact HBB.out)) hb5)
            clear hb5
            go_wp2
            go_ret
            exact ⟨by rw [HR.out]; rfl, HB9.out⟩
          · have e1 : ((rd_T48 L (j : Int)).f0 == 1) = false := beq_eq_false_iff_ne.mpr k1
            rw [if_neg k1] at HI2
            have HI3 := Aside0.mk HI2
            clear k1 HI2
            have hcn := counts_calls (wr.alloc (.cells #[.int .i64 (rd_T48 L (j : Int)).f0, .int .i64 (rd_T48 L (j : Int)).f1, .int .i64 (rd_T48 L (j : Int)).f2] 48 (0, 0))) (rd_T48 L (j : Int))
            have HCN := Aside0.mk hcn
            clear hcn
            by_cases kc : cts (rd_T48 L (j : Int)) = true
            · rw [kc] at HCN
              rw [if_pos kc] at HI3
              clear kc
              go_wp2_with (fail)
              refine HCN.out.mono ?_
              rintro e w4 ⟨rfl, hb4⟩
              have HB4 := Aside0.mk (below_step (by repeat (first | (with_reducible first | exact HBB.out | apply below_alloc | apply pw_below_drewN | apply below_drew1) | exact HBB.out)) hb4)
              have hz2' := (hb4.cell (p := ⟨wr.heap.size, 2, none⟩) (by simp)).trans hz2
              clear hb4
              go_wp2
              go_roundg (m - (j + 1))
              case measure => omega
              case rel => exact ⟨j + 1, _, rfl, by (try simp); (try rfl), by omega, by omega, HI3, HB4⟩
            · have kc' : cts (rd_T48 L (j : Int)) = false := by simpa using kc
              rw [kc'] at HCN
              rw [if_neg kc] at HI3
              clear kc kc'
              go_wp2_with (fail)
              refine HCN.out.mono ?_
              rintro e w4 ⟨rfl, hb4⟩
              have HB4 := Aside0.mk (below_step (by repeat (first | (with_reducible first | exact HBB.out | apply below_alloc | apply pw_below_drewN | apply below_drew1) | exact HBB.out)) hb4)
              clear hb4
              go_wp2
              go_roundg (m - (j + 1))
              case measure => omega
              case rel => exact ⟨j + 1, _, rfl, by (try simp); (try rfl), by omega, by omega, HI3, HB4⟩
        · have cb : decide ((j : Int) < (m : Int)) = false := decide_eq_false cj
          have hjm : j = m := by omega
          rw [hjm, ← hdl, List.drop_length] at HI2
          have hto : to_ = R := HI2
          subst hto
          clear HI2 hjm
          go_wp2_with (fail)
          refine (put_calls _ _ _).mono ?_
          rintro e w5 ⟨rfl, hb5⟩
          have HB9 := Aside0.mk (below_step (by repeat (first | (with_reducible first | exact HBB.out | apply below_alloc | apply pw_below_drewN | apply below_drew1) | exact HBB.out)) hb5)
          clear hb5
          go_wp2
          go_ret
          exact ⟨by rw [HR.out]; rfl, HB9.out⟩

end Go.Proofs.Ytagjfcogbnhmgaa.Sg
/- What may be done: a diagnostic. -/
namespace Go.Proofs.Ytagjfcogbnhmgaa.Sg
open Go.RowKit Go.Proofs.Ytagjfcogbnhmgaa.Q Go.Proofs.YtagjfcogbnhmgaaW.PrintWords Go.Proofs.YtagjfcogbnhmgaaW.PrintLast Go.Proofs.YtagjfcogbnhmgaaW.PrintMore
attribute [local go_sem] max2_int min2_int max_two min_two max_three min_three max_four min_four
set_option linter.unusedVariables false
set_option linter.unusedSimpArgs false
set_option maxHeartbeats 4000000
set_option maxRecDepth 100000
def rep (n : Int) : ByteArray := ⟨(Lib.repeatL (⟨#[32]⟩ : ByteArray).data.toList n.toNat).toArray⟩
def wrongF (b : List Int) (l : List S48) (code fr to_ : Int) : Option S30 :=
  if code = 1 then some ⟨fr, to_, ⟨#[]⟩⟩
  else if code = 2 then some ⟨fr, to_, rep (mn (mx (to_ - fr) 0) 16384)⟩
  else if code = 3 then some ⟨to_, to_, signF b fr⟩
  else if code = 9 then opn fr l
  else none
theorem mnx (x : Int) : 0 ≤ mn (mx x 0) 16384 ∧ mn (mx x 0) 16384 ≤ 16384 := by
  unfold mn mx
  split <;> split <;> omega
theorem rep_is (x : Int) : strings_Repeat.f ⟨#[32]⟩ (mn (mx x 0) 16384) = some (rep (mn (mx x 0) 16384)) := by
  have hm := mnx x
  have h1 : (⟨#[32]⟩ : ByteArray).size = 1 := rfl
  unfold strings_Repeat.f
  rw [if_pos hm.1, if_pos (by omega), if_pos (by rw [h1, Nat.one_mul]; omega)]
  rfl
theorem wrong_calls (W : World) (g : Nat) (A0 : Option Addr) (c0 : Nat) (b : List Int) (A1 : Option Addr) (c1 : Nat) (l : List S48) (hs : MQ W g A0 c0 b A1 c1 l) (code fr to_ : Int) (h0 : 0 ≤ fr) (h1 : fr ≤ 1000000) (h2 : 0 ≤ to_) (h3 : to_ ≤ 1000000) :
    Calls Try.prog 14 #[.pointer (some ⟨g, 0, none⟩), .agg #[.int .i64 code, .int .i64 fr, .int .i64 to_]] W fun e w' => e = .returned (vOf (wrongF b l code fr to_)) ∧ Below W.heap.size W w' := by
  have H := Aside0.mk hs
  have HB := Aside0.mk (Below.refl W.heap.size W)
  clear hs
  have hu := Try.underlying27
  have hu2 := Try.underlying30
  have HBA := Aside0.mk (below_alloc (Below.refl W.heap.size W) (.cells #[.int .i64 code, .int .i64 fr, .int .i64 to_] 27 (0, 0)))
  have HA := Aside0.mk (MQ.below H.out HBA.out)
  by_cases k1 : code = 1
  · subst k1
    go_enter Try.func14, Try.ntmps14
    go_wp2
    go_ret
    exact ⟨rfl, by repeat (first | (with_reducible first | exact HB.out | apply below_alloc | apply pw_below_drewN | apply below_drew1) | exact HB.out)⟩
  · have d1 : (code == 1) = false := beq_eq_false_iff_ne.mpr k1
    by_cases k2 : code = 2
    · subst k2
      go_enter Try.func14, Try.ntmps14
      go_wp2_with (fail)
      have hb0 := blk_new W (.cells #[.int .i64 2, .int .i64 fr, .int .i64 to_] 27 (0, 0))
      have gc0 := (blk_cell hb0 0).trans rfl
      have gc1 := (blk_cell hb0 1).trans rfl
      have gc2 := (blk_cell hb0 2).trans rfl
      clear hb0
      have hsz : W.heap.size < (W.alloc (.cells #[.int .i64 2, .int .i64 fr, .int .i64 to_] 27 (0, 0))).heap.size := by simp
      generalize W.alloc (.cells #[.int .i64 2, .int .i64 fr, .int .i64 to_] 27 (0, 0)) = w1 at *
      have hrp := rep_is (to_ - fr)
      have he : wrongF b l 2 fr to_ = some ⟨fr, to_, rep (mn (mx (to_ - fr) 0) 16384)⟩ := by unfold wrongF; rw [if_neg (by decide), if_pos rfl]
      obtain ⟨m1, hm1⟩ : ∃ j_ : Int, mx (to_ - fr) 0 = j_ := ⟨_, rfl⟩
      rw [hm1] at hrp he
      have hm1_ : (if to_ - fr < 0 then 0 else to_ - fr) = m1 := hm1
      obtain ⟨m2, hm2⟩ : ∃ j_ : Int, mn m1 16384 = j_ := ⟨_, rfl⟩
      rw [hm2] at hrp he
      have hm2_ : (if 16384 < m1 then 16384 else m1) = m2 := hm2
      have HRP := Aside0.mk (strings_Repeat.calls ⟨#[32]⟩ m2 _ w1.drew hrp)
      have HE := Aside0.mk he
      clear hrp hm1 hm2 he
      have hw : wrap64 (to_ - fr) = to_ - fr := by unfold wrap64; omega
      have hw2 : IntKind.i64.wrap (to_ - fr) = to_ - fr := (i64_w _).trans hw
      have gs1 : w1.drew.cell? ⟨W.heap.size, 1, none⟩ = some (.int .i64 fr) := gc1
      have gs2 : w1.drew.cell? ⟨W.heap.size, 2, none⟩ = some (.int .i64 to_) := gc2
      go_region_held3 (fun w' => w'.cell? ⟨W.heap.size, 1, none⟩ = some (.int .i64 fr) ∧ w'.cell? ⟨W.heap.size, 2, none⟩ = some (.int .i64 to_)) (go_keep) ((go_at_call 31; (try simp only [hw2, hm1_, hm2_]); (with_reducible refine HRP.out.mono ?_); rintro e' w4 ⟨rfl, hb4⟩; have HB9 := Aside0.mk (below_step (below_drew HBA.out) hb4); have kc1 := (hb4.cell (p := ⟨W.heap.size, 1, none⟩) hsz).trans gs1; have kc2 := (hb4.cell (p := ⟨W.heap.size, 2, none⟩) hsz).trans gs2; clear hb4))
      all_goals
        try go_wp2
        go_ret
        exact ⟨by rw [HE.out]; rfl, HB9.out⟩
    · have d2 : (code == 2) = false := beq_eq_false_iff_ne.mpr k2
      by_cases k3 : code = 3
      · subst k3
        go_enter Try.func14, Try.ntmps14
        go_wp2_with (fail)
        have hb0 := blk_new W (.cells #[.int .i64 3, .int .i64 fr, .int .i64 to_] 27 (0, 0))
        have gc0 := (blk_cell hb0 0).trans rfl
        have gc1 := (blk_cell hb0 1).trans rfl
        have gc2 := (blk_cell hb0 2).trans rfl
        clear hb0
        have hsz : W.heap.size < (W.alloc (.cells #[.int .i64 3, .int .i64 fr, .int .i64 to_] 27 (0, 0))).heap.size := by simp
        generalize W.alloc (.cells #[.int .i64 3, .int .i64 fr, .int .i64 to_] 27 (0, 0)) = w1 at *
        have he : wrongF b l 3 fr to_ = some ⟨to_, to_, signF b fr⟩ := by unfold wrongF; rw [if_neg (by decide), if_neg (by decide), if_pos rfl]
        have HS := Aside0.mk (sign_calls w1.drew g A0 c0 b A1 c1 l (HA.out.below (below_drew (Below.refl _ _))) fr)
        have HE := Aside0.mk he
        clear he
        generalize signF b fr = sg at *
        have gs1 : w1.drew.cell? ⟨W.heap.size, 1, none⟩ = some (.int .i64 fr) := gc1
        have gs2 : w1.drew.cell? ⟨W.heap.size, 2, none⟩ = some (.int .i64 to_) := gc2
        go_region_held3 (fun w' => w'.cell? ⟨W.heap.size, 1, none⟩ = some (.int .i64 fr) ∧ w'.cell? ⟨W.heap.size, 2, none⟩ = some (.int .i64 to_)) (go_keep) ((first | (go_at_call 33; (with_reducible refine HS.out.mono ?_); rintro e' w4 ⟨rfl, hb4⟩; have HB4 := Aside0.mk (below_step (below_drew HBA.out) hb4); have hs4 := Nat.lt_of_lt_of_le hsz hb4.size; have kc1 := (hb4.cell (p := ⟨W.heap.size, 1, none⟩) hsz).trans gs1; have kc2 := (hb4.cell (p := ⟨W.heap.size, 2, none⟩) hsz).trans gs2; clear hb4) | (go_at_call 32; (with_reducible refine (put_calls _ _ _).mono ?_); rintro e' w5 ⟨rfl, hb5⟩; have HB9 := Aside0.mk (below_step HB4.out hb5); have jc1 := (hb5.cell (p := ⟨W.heap.size, 1, none⟩) hs4).trans kc1; have jc2 := (hb5.cell (p := ⟨W.heap.size, 2, none⟩) hs4).trans kc2; clear hb5)))
        all_goals
          try go_wp2
          go_ret
          exact ⟨by rw [HE.out]; rfl, HB9.out⟩
      · have d3 : (code == 3) = false := beq_eq_false_iff_ne.mpr k3
        by_cases k9 : code = 9
        · subst k9
          go_enter Try.func14, Try.ntmps14
          go_wp2_with (fail)
          have he : wrongF b l 9 fr to_ = opn fr l := by unfold wrongF; rw [if_neg (by decide), if_neg (by decide), if_neg (by decide), if_pos rfl]
          refine (open_calls _ g A0 c0 b A1 c1 l HA.out fr).mono ?_
          rintro e w5 ⟨rfl, hb5⟩
          have HB9 := Aside0.mk (below_step HBA.out hb5)
          clear hb5
          go_wp2
          go_ret
          exact ⟨by rw [he]; rfl, HB9.out⟩
        · have d9 : (code == 9) = false := beq_eq_false_iff_ne.mpr k9
          have he : wrongF b l code fr to_ = none := by unfold wrongF; rw [if_neg k1, if_neg k2, if_neg k3, if_neg k9]
          rw [he]
          clear he k1 k2 k3 k9
          go_enter Try.func14, Try.ntmps14
          go_wp2
          go_ret
          exact ⟨rfl, by repeat (first | (with_reducible first | exact HB.out | apply below_alloc | apply pw_below_drewN | apply below_drew1) | exact HB.out)⟩
end Go.Proofs.Ytagjfcogbnhmgaa.Sg
/- What may be done: a finding. -/
namespace Go.Proofs.Ytagjfcogbnhmgaa.Sg
open Go.RowKit Go.Proofs.Ytagjfcogbnhmgaa.Q Go.Proofs.YtagjfcogbnhmgaaW.PrintWords Go.Proofs.YtagjfcogbnhmgaaW.PrintLast Go.Proofs.YtagjfcogbnhmgaaW.PrintMore
attribute [local go_sem] max2_int min2_int max_two min_two max_three min_three max_four min_four
set_option linter.unusedVariables false
set_option linter.unusedSimpArgs false
set_option maxHeartbeats 4000000
set_option maxRecDepth 100000
def foundF (code fr to_ : Int) : Option S30 :=
  if code = 1 then some ⟨fr, to_, ⟨#[]⟩⟩
  else if code = 4 then some ⟨fr, to_, ⟨#[]⟩⟩
  else if code = 5 then some ⟨0, 0, ⟨#[45, 45, 45, 10]⟩⟩
  else if code = 6 then some ⟨to_, to_, ⟨#[32]⟩⟩
  else if code = 7 then some ⟨to_, to_, ⟨#[32]⟩⟩
  else if code = 9 then some ⟨to_, to_, ⟨#[10]⟩⟩
  else none
theorem found_calls (W : World) (p : Value) (code fr to_ : Int) :
    Calls Try.prog 15 #[p, .agg #[.int .i64 code, .int .i64 fr, .int .i64 to_]] W fun e w' => e = .returned (vOf (foundF code fr to_)) ∧ Below W.heap.size W w' := by
  have HB := Aside0.mk (Below.refl W.heap.size W)
  have hu := Try.underlying27
  have hu2 := Try.underlying30
  have HBA := Aside0.mk (below_alloc (Below.refl W.heap.size W) (.cells #[.int .i64 code, .int .i64 fr, .int .i64 to_] 27 (0, 0)))
  have HV : Aside0 (vOf (foundF code fr to_) = vOf (foundF code fr to_)) := ⟨rfl⟩
  have key : ∀ (o : Option S30), foundF code fr to_ = o → Aside0 (foundF code fr to_ = o) := fun _ h => ⟨h⟩
  clear HV
  by_cases k1 : code = 1
  · have HE := key (some ⟨fr, to_, ⟨#[]⟩⟩) (by unfold foundF; rw [if_pos k1])
    clear key
    have d1 : (code == 1) = true := beq_iff_eq.mpr k1
    clear k1
    go_enter Try.func15, Try.ntmps15
    go_wp2
    go_ret
    exact ⟨by rw [HE.out]; rfl, by repeat (first | (with_reducible first | exact HB.out | apply below_alloc | apply pw_below_drewN | apply below_drew1) | exact HB.out)⟩
  · have d1 : (code == 1) = false := beq_eq_false_iff_ne.mpr k1
    by_cases k4 : code = 4
    · have HE := key (some ⟨fr, to_, ⟨#[]⟩⟩) (by unfold foundF; rw [if_neg k1, if_pos k4])
      have d4 : (code == 4) = true := beq_iff_eq.mpr k4
      clear key k1 k4
      go_enter Try.func15, Try.ntmps15
      go_wp2
      go_ret
      exact ⟨by rw [HE.out]; rfl, by repeat (first | (with_reducible first | exact HB.out | apply below_alloc | apply pw_below_drewN | apply below_drew1) | exact HB.out)⟩
    · have d4 : (code == 4) = false := beq_eq_false_iff_ne.mpr k4
      by_cases k5 : code = 5
      · have HE := key (some ⟨0, 0, ⟨#[45, 45, 45, 10]⟩⟩) (by unfold foundF; rw [if_neg k1, if_neg k4, if_pos k5])
        have d5 : (code == 5) = true := beq_iff_eq.mpr k5
        clear key k1 k4 k5
        go_enter Try.func15, Try.ntmps15
        go_wp2_with (first | (go_at_call 32; (with_reducible refine (put_calls _ _ _).mono ?_); rintro e w5 ⟨rfl, hb5⟩; have HB9 := Aside0.mk (below_step HBA.out hb5); clear hb5))
        go_ret
        exact ⟨by rw [HE.out]; rfl, HB9.out⟩
      · have d5 : (code == 5) = false := beq_eq_false_iff_ne.mpr k5
        by_cases k6 : code = 6
        · have HE := key (some ⟨to_, to_, ⟨#[32]⟩⟩) (by unfold foundF; rw [if_neg k1, if_neg k4, if_neg k5, if_pos k6])
          have d6 : (code == 6) = true := beq_iff_eq.mpr k6
          clear key k1 k4 k5 k6
          go_enter Try.func15, Try.ntmps15
          go_wp2_with (first | (go_at_call 32; (with_reducible refine (put_calls _ _ _).mono ?_); rintro e w5 ⟨rfl, hb5⟩; have HB9 := Aside0.mk (below_step HBA.out hb5); clear hb5))
          go_ret
          exact ⟨by rw [HE.out]; rfl, HB9.out⟩
        · have d6 : (code == 6) = false := beq_eq_false_iff_ne.mpr k6
          by_cases k7 : code = 7
          · have HE := key (some ⟨to_, to_, ⟨#[32]⟩⟩) (by unfold foundF; rw [if_neg k1, if_neg k4, if_neg k5, if_neg k6, if_pos k7])
            have d7 : (code == 7) = true := beq_iff_eq.mpr k7
            clear key k1 k4 k5 k6 k7
            go_enter Try.func15, Try.ntmps15
            go_wp2_with (first | (go_at_call 32; (with_reducible refine (put_calls _ _ _).mono ?_); rintro e w5 ⟨rfl, hb5⟩; have HB9 := Aside0.mk (below_step HBA.out hb5); clear hb5))
            go_ret
            exact ⟨by rw [HE.out]; rfl, HB9.out⟩
          · have d7 : (code == 7) = false := beq_eq_false_iff_ne.mpr k7
            by_cases k9 : code = 9
            · have HE := key (some ⟨to_, to_, ⟨#[10]⟩⟩) (by unfold foundF; rw [if_neg k1, if_neg k4, if_neg k5, if_neg k6, if_neg k7, if_pos k9])
              have d9 : (code == 9) = true := beq_iff_eq.mpr k9
              clear key k1 k4 k5 k6 k7 k9
              go_enter Try.func15, Try.ntmps15
              go_wp2_with (first | (go_at_call 32; (with_reducible refine (put_calls _ _ _).mono ?_); rintro e w5 ⟨rfl, hb5⟩; have HB9 := Aside0.mk (below_step HBA.out hb5); clear hb5))
              go_ret
              exact ⟨by rw [HE.out]; rfl, HB9.out⟩
            · have d9 : (code == 9) = false := beq_eq_false_iff_ne.mpr k9
              have HE := key none (by unfold foundF; rw [if_neg k1, if_neg k4, if_neg k5, if_neg k6, if_neg k7, if_neg k9])
              clear key k1 k4 k5 k6 k7 k9
              go_enter Try.func15, Try.ntmps15
              go_wp2
              go_ret
              exact ⟨by rw [HE.out]; rfl, by repeat (first | (with_reducible first | exact HB.out | apply below_alloc | apply pw_below_drewN | apply below_drew1) | exact HB.out)⟩
end Go.Proofs.Ytagjfcogbnhmgaa.Sg
/- What may be done, of all that is told and found. -/
namespace Go.Proofs.Ytagjfcogbnhmgaa.Sg
open Go.RowKit Go.Proofs.Ytagjfcogbnhmgaa.Q Go.Proofs.YtagjfcogbnhmgaaW.PrintWords Go.Proofs.YtagjfcogbnhmgaaW.PrintLast Go.Proofs.YtagjfcogbnhmgaaW.PrintMore
attribute [local go_sem] max2_int min2_int max_two min_two max_three min_three max_four min_four
set_option linter.unusedVariables false
set_option linter.unusedSimpArgs false
set_option maxHeartbeats 4000000
set_option maxRecDepth 100000
def wr1 (b : List Int) (l : List S48) (x : S27) : Option S30 := wrongF b l x.f0 x.f1 x.f2
def fd1 (x : S27) : Option S30 := foundF x.f0 x.f1 x.f2
def fits (d : List S27) : Bool := d.all fun x => decide (0 ≤ x.f1) && (decide (x.f1 ≤ 1000000) && (decide (0 ≤ x.f2) && decide (x.f2 ≤ 1000000)))
def editsF (b : List Int) (l : List S48) (d f : List S27) : Option (List S30) :=
  if b.length ≤ 1000000 ∧ l.length ≤ 1000000 ∧ d.length ≤ 1000 ∧ f.length ≤ 1000 ∧ fits d = true then some (d.filterMap (wr1 b l) ++ f.filterMap fd1) else none
theorem rd_dg (d : List S27) (i : Nat) (h : i < d.length) : rd_T27 d (i : Int) = d[i] := by
  unfold rd_T27
  rw [Int.toNat_natCast, List.getD_eq_getElem?_getD, List.getElem?_eq_getElem h]
  rfl
def one : Option S30 → List S30
  | none => []
  | some e => [e]
theorem fm_drop (g : S27 → Option S30) (d : List S27) (i : Nat) (h : i < d.length) : (d.drop i).filterMap g = one (g (rd_T27 d (i : Int))) ++ (d.drop (i + 1)).filterMap g := by
  rw [List.drop_eq_getElem_cons h, rd_dg d i h, List.filterMap_cons]
  cases g d[i] <;> rfl
theorem fits_at {d : List S27} (h : fits d = true) (i : Nat) (hi : i < d.length) : 0 ≤ (rd_T27 d (i : Int)).f1 ∧ (rd_T27 d (i : Int)).f1 ≤ 1000000 ∧ 0 ≤ (rd_T27 d (i : Int)).f2 ∧ (rd_T27 d (i : Int)).f2 ≤ 1000000 := by
  rw [rd_dg d i hi]
  have := List.all_eq_true.mp h d[i] (List.getElem_mem hi)
  simpa only [Bool.and_eq_true, decide_eq_true_eq] using this
theorem ta_none (W : World) : (Instr.typeAssert .nilIface 20 30 true).run Try.prog W = .ok (.tuple #[.agg #[.int .i64 0, .int .i64 0, .string ⟨#[]⟩], .bool false]) W := by
  have h1 := Try.underlying20
  have h2 := Try.underlying30
  have h3 := Try.zeroValue30
  simp [Instr.typeAssert, *]
theorem ta_some (W : World) (v : Value) : (Instr.typeAssert (.iface 30 v) 20 30 true).run Try.prog W = .ok (.tuple #[v, .bool true]) W := by
  have h1 := Try.underlying20
  have h2 := Try.underlying30
  have h3 := Try.zeroValue30
  simp [Instr.typeAssert, *]
theorem vOf_none : vOf none = .nilIface := rfl
theorem vOf_some (e : S30) : vOf (some e) = .iface 30 (.agg #[.int .i64 e.f0, .int .i64 e.f1, .string e.f2]) := rfl
attribute [local go_sem] ta_none ta_some
theorem edits_calls (A0 : Option Addr) (c0 : Nat) (b : List Int) (A1 : Option Addr) (c1 : Nat) (l : List S48) (A2 : Option Addr) (c2 : Nat) (d : List S27) (A3 : Option Addr) (c3 : Nat) (f : List S27) (r : List S30) (W : World)
    (hr0 : Kd.C (Kd.int .u8) W A0 b.length b) (hc0 : b.length ≤ c0) (hr1 : Kd.C k48 W A1 l.length l) (hc1 : l.length ≤ c1) (hr2 : Kd.C k27 W A2 d.length d) (hc2 : d.length ≤ c2) (hr3 : Kd.C k27 W A3 f.length f) (hc3 : f.length ≤ c3) (h : editsF b l d f = some r) :
    Calls Try.prog 7 #[.slice A0 b.length c0, .slice A1 l.length c1, .slice A2 d.length c2, .slice A3 f.length c3] W fun e w' => ∃ v0_ : Value, e = .returned v0_ ∧ Kd.R k30 30 w' W.heap.size (fun _ => True) v0_ r ∧ Below W.heap.size W w' := by
  unfold editsF at h
  by_cases hk : b.length ≤ 1000000 ∧ l.length ≤ 1000000 ∧ d.length ≤ 1000 ∧ f.length ≤ 1000 ∧ fits d = true
  case neg => rw [if_neg hk] at h; cases h
  rw [if_pos hk] at h
  obtain ⟨k0, k1, k2, k3, k4⟩ := hk
  have HE : Aside0 (d.filterMap (wr1 b l) ++ f.filterMap fd1 = r) := ⟨Option.some.inj h⟩
  have HC0 := Aside0.mk hr0
  have HC1 := Aside0.mk hr1
  have HC2 := Aside0.mk hr2
  have HC3 := Aside0.mk hr3
  have MK : ∀ w' : World, Below W.heap.size W w' → w'.heap[W.heap.size]? = some (.cells #[.slice A0 b.length c0, .slice A1 l.length c1] 42 (0, 0)) → MQ w' W.heap.size A0 c0 b A1 c1 l := fun w' hb hq => ⟨hq, Kd.C_below HC0.out hb, hc0, Kd.C_below HC1.out hb, hc1, k0, k1⟩
  have MKA := Aside0.mk MK
  have FT := Aside0.mk k4
  clear h hr0 hr1 hr2 hr3 MK k4
  have hu := Try.underlying27
  have hu2 := Try.underlying30
  have hu3 := Try.underlying42
  have HB0 := Aside0.mk (below_alloc (Below.refl W.heap.size W) (.cells #[.slice A0 b.length c0, .slice A1 l.length c1] 42 (0, 0)))
  have HK0 := Aside0.mk (blk_new W (.cells #[.slice A0 b.length c0, .slice A1 l.length c1] 42 (0, 0)))
  go_enter Try.func7, Try.ntmps7
  go_wp2
  go_loopg [10, 12, 13, 14, 25] d.length (fun kq v10 v12 v13 v14 v25 w' => ∃ (i : Nat) (out : List S30), v25 = .int .i64 i ∧ i ≤ d.length ∧ d.length - i ≤ kq ∧ out.length ≤ i ∧ Aside0 (out ++ (d.drop i).filterMap (wr1 b l) = d.filterMap (wr1 b l)) ∧ Aside0 (Kd.R k30 30 w' W.heap.size (fun _ => True) v10 out) ∧ Aside0 (w'.heap[W.heap.size]? = some (.cells #[.slice A0 b.length c0, .slice A1 l.length c1] 42 (0, 0))) ∧ Aside0 (Below W.heap.size W w'))
  case atStart => exact ⟨0, [], rfl, Nat.zero_le _, by omega, by simp, ⟨by rw [List.drop_zero]; rfl⟩, ⟨Kd.R_nil _ _ _ _ _⟩, HK0, HB0⟩
  case round =>
    clear HB0 HK0
    obtain ⟨i, out, rfl, hi, hg, ho, HO, HR, HK, HB⟩ := hrel
    by_cases c : (i : Int) < (d.length : Int)
    · have cb : decide ((i : Int) < (d.length : Int)) = true := decide_eq_true c
      obtain ⟨ad, ea, hx0, hx1, hx2⟩ := at_T27 (Kd.C_below HC2.out HB.out) (i : Int) (by omega) (by omega)
      rw [Int.toNat_natCast] at hx0 hx1 hx2
      cases ea
      have q1 : (0 ≤ (i : Int)) = True := eq_true (by omega)
      have q2 : ((i : Int) < (d.length : Int)) = True := eq_true c
      have hfit := fits_at FT.out i (by omega)
      have HF : Aside0 ((d.drop i).filterMap (wr1 b l) = one (wr1 b l (rd_T27 d (i : Int))) ++ (d.drop (i + 1)).filterMap (wr1 b l)) := ⟨fm_drop (wr1 b l) d i (by omega)⟩
      have hb0 := blk_new wr (.cells #[.int .i64 (rd_T27 d (i : Int)).f0, .int .i64 (rd_T27 d (i : Int)).f1, .int .i64 (rd_T27 d (i : Int)).f2] 27 (0, 0))
      have hz0 := (blk_cell hb0 0).trans rfl
      have hz1 := (blk_cell hb0 1).trans rfl
      have hz2 := (blk_cell hb0 2).trans rfl
      clear hb0
      have HW1 := Aside0.mk (below_alloc HB.out (.cells #[.int .i64 (rd_T27 d (i : Int)).f0, .int .i64 (rd_T27 d (i : Int)).f1, .int .i64 (rd_T27 d (i : Int)).f2] 27 (0, 0)))
      have HR1 := Aside0.mk (Kd.R_alloc HR.out (.cells #[.int .i64 (rd_T27 d (i : Int)).f0, .int .i64 (rd_T27 d (i : Int)).f1, .int .i64 (rd_T27 d (i : Int)).f2] 27 (0, 0)))
      have HK1 := Aside0.mk (blk_below HK.out (below_alloc (Below.refl wr.heap.size wr) (.cells #[.int .i64 (rd_T27 d (i : Int)).f0, .int .i64 (rd_T27 d (i : Int)).f1, .int .i64 (rd_T27 d (i : Int)).f2] 27 (0, 0))))
      have HWR := Aside0.mk (wrong_calls _ W.heap.size A0 c0 b A1 c1 l (MKA.out _ HW1.out HK1.out) (rd_T27 d (i : Int)).f0 (rd_T27 d (i : Int)).f1 (rd_T27 d (i : Int)).f2 hfit.1 hfit.2.1 hfit.2.2.1 hfit.2.2.2)
      clear HR HK HB
      generalize hwv : wrongF b l (rd_T27 d (i : Int)).f0 (rd_T27 d (i : Int)).f1 (rd_T27 d (i : Int)).f2 = o at *
      have hwv2 : wr1 b l (rd_T27 d (i : Int)) = o := hwv
      rw [hwv2] at HF
      clear hwv hwv2 hfit
      have HO2 : Aside0 ((out ++ one o) ++ (d.drop (i + 1)).filterMap (wr1 b l) = d.filterMap (wr1 b l)) := ⟨by rw [List.append_assoc, ← HF.out]; exact HO.out⟩
      clear HF HO
      cases o with
      | none =>
        have HWR2 := HWR
        rw [vOf_none] at HWR2
        clear HWR
        go_wp2_with (first | (go_at_call 14; (with_reducible refine HWR2.out.mono ?_); rintro e w4 ⟨rfl, hb4⟩; have HB4 := Aside0.mk (below_step HW1.out hb4); have HR4 := Aside0.mk (Kd.R_below HR1.out hb4); have HK4 := Aside0.mk (blk_below HK1.out hb4); clear hb4))
        go_roundg (d.length - (i + 1))
        case measure => omega
        case rel => exact ⟨i + 1, out, by (try simp); (try rfl), by omega, by omega, by omega, ⟨by have h9 := HO2.out; rw [show one none = ([] : List S30) from rfl, List.append_nil] at h9; exact h9⟩, ⟨Kd.R_alloc HR4.out _⟩, ⟨blk_below HK4.out (below_alloc (Below.refl _ _) _)⟩, ⟨below_alloc HB4.out _⟩⟩
      | some ed =>
        have HWR2 := HWR
        rw [vOf_some] at HWR2
        clear HWR
        have HO3 : Aside0 ((out ++ [ed]) ++ (d.drop (i + 1)).filterMap (wr1 b l) = d.filterMap (wr1 b l)) := ⟨HO2.out⟩
        clear HO2
        go_wp2_with (first | (go_at_call 14; (with_reducible refine HWR2.out.mono ?_); rintro e w4 ⟨rfl, hb4⟩; have HB4 := Aside0.mk (below_step HW1.out hb4); have HR4 := Aside0.mk (Kd.R_below HR1.out hb4); have HK4 := Aside0.mk (blk_below HK1.out hb4); clear hb4; have HB5 := Aside0.mk (below_alloc HB4.out (.cells #[.int .i64 ed.f0, .int .i64 ed.f1, .string ed.f2] 30 (0, 0))); have HR5 := Aside0.mk (Kd.R_alloc HR4.out (.cells #[.int .i64 ed.f0, .int .i64 ed.f1, .string ed.f2] 30 (0, 0))); have HK5 := Aside0.mk (blk_below HK4.out (below_alloc (Below.refl w4.heap.size w4) (.cells #[.int .i64 ed.f0, .int .i64 ed.f1, .string ed.f2] 30 (0, 0))))) | ((with_reducible refine gate_builtin (b := .append) (xs := #[.tmp 37, .tmp 39]) rfl ?_); at_builtin; refine Kd.R_append k30 (w0 := W) W.heap.size rfl (.tmp 37) (.tmp 39) 31 30 (.agg #[(.int .i64 0), (.int .i64 0), (.string ⟨#[]⟩)]) 32 rfl Try.underlying31 info30 rfl (by decide) (by omega) u10 out ed [.int .i64 ed.f0, .int .i64 ed.f1, .string ed.f2] (fun _ => True) (fun _ => False) rfl (by first | rfl | (go_simp; done) | (go_simp; rfl)) (k30_mkM _ _ _ _) (fun _ hk => hk.elim) (fun _ _ => trivial) HR5.out HB5.out HB5.out.size (by omega) ?_; intro v1 w6 hr6 hb6 hg6 hat6; have HR6 := Aside0.mk hr6; have HB6 := Aside0.mk hb6; have HK6 := Aside0.mk (blk_grown HK5.out hg6 (Kd.R_ne HR5.out HK5.out (by decide))); clear hr6 hb6 hg6 hat6))
        go_roundg (d.length - (i + 1))
        case measure => omega
        case rel => exact ⟨i + 1, out ++ [ed], by (try simp); (try rfl), by omega, by omega, by simp; omega, HO3, HR6, HK6, HB6⟩
    · have cb : decide ((i : Int) < (d.length : Int)) = false := decide_eq_false c
      have hil : i = d.length := by omega
      have HO2 : Aside0 (out = d.filterMap (wr1 b l)) := ⟨by have h9 := HO.out; rw [hil, List.drop_length] at h9; simpa using h9⟩
      clear HO hil
      have ho2 : out.length ≤ 1000 := by omega
      clear ho hi hg
      go_wp2
      go_loopg [10, 16, 17, 18, 44] f.length (fun kq v10 v16 v17 v18 v44 w' => ∃ (i : Nat) (out : List S30), v44 = .int .i64 i ∧ i ≤ f.length ∧ f.length - i ≤ kq ∧ out.length ≤ 1000 + i ∧ Aside0 (out ++ (f.drop i).filterMap fd1 = r) ∧ Aside0 (Kd.R k30 30 w' W.heap.size (fun _ => True) v10 out) ∧ Aside0 (w'.heap[W.heap.size]? = some (.cells #[.slice A0 b.length c0, .slice A1 l.length c1] 42 (0, 0))) ∧ Aside0 (Below W.heap.size W w'))
      case atStart => exact ⟨0, out, rfl, Nat.zero_le _, by omega, by omega, ⟨by rw [List.drop_zero, HO2.out]; exact HE.out⟩, HR, HK, HB⟩
      case round =>
        clear HO2 HR HK HB ho2 cb out
        obtain ⟨i, out, rfl, hi, hg, ho, HO, HR, HK, HB⟩ := hrel
        by_cases c : (i : Int) < (f.length : Int)
        · have cb : decide ((i : Int) < (f.length : Int)) = true := decide_eq_true c
          obtain ⟨ad, ea, hx0, hx1, hx2⟩ := at_T27 (Kd.C_below HC3.out HB.out) (i : Int) (by omega) (by omega)
          rw [Int.toNat_natCast] at hx0 hx1 hx2
          cases ea
          have q1 : (0 ≤ (i : Int)) = True := eq_true (by omega)
          have q2 : ((i : Int) < (f.length : Int)) = True := eq_true c
          have HF : Aside0 ((f.drop i).filterMap fd1 = one (fd1 (rd_T27 f (i : Int))) ++ (f.drop (i + 1)).filterMap fd1) := ⟨fm_drop fd1 f i (by omega)⟩
          have hb0 := blk_new wr (.cells #[.int .i64 (rd_T27 f (i : Int)).f0, .int .i64 (rd_T27 f (i : Int)).f1, .int .i64 (rd_T27 f (i : Int)).f2] 27 (0, 0))
          have hz0 := (blk_cell hb0 0).trans rfl
          have hz1 := (blk_cell hb0 1).trans rfl
          have hz2 := (blk_cell hb0 2).trans rfl
          clear hb0
          have HW1 := Aside0.mk (below_alloc HB.out (.cells #[.int .i64 (rd_T27 f (i : Int)).f0, .int .i64 (rd_T27 f (i : Int)).f1, .int .i64 (rd_T27 f (i : Int)).f2] 27 (0, 0)))
          have HR1 := Aside0.mk (Kd.R_alloc HR.out (.cells #[.int .i64 (rd_T27 f (i : Int)).f0, .int .i64 (rd_T27 f (i : Int)).f1, .int .i64 (rd_T27 f (i : Int)).f2] 27 (0, 0)))
          have HK1 := Aside0.mk (blk_below HK.out (below_alloc (Below.refl wr.heap.size wr) (.cells #[.int .i64 (rd_T27 f (i : Int)).f0, .int .i64 (rd_T27 f (i : Int)).f1, .int .i64 (rd_T27 f (i : Int)).f2] 27 (0, 0))))
          have HWR := Aside0.mk (found_calls (wr.alloc (.cells #[.int .i64 (rd_T27 f (i : Int)).f0, .int .i64 (rd_T27 f (i : Int)).f1, .int .i64 (rd_T27 f (i : Int)).f2] 27 (0, 0))) (.pointer (some ⟨W.heap.size, 0, none⟩)) (rd_T27 f (i : Int)).f0 (rd_T27 f (i : Int)).f1 (rd_T27 f (i : Int)).f2)
          clear HR HK HB
          generalize hwv : foundF (rd_T27 f (i : Int)).f0 (rd_T27 f (i : Int)).f1 (rd_T27 f (i : Int)).f2 = o at *
          have hwv2 : fd1 (rd_T27 f (i : Int)) = o := hwv
          rw [hwv2] at HF
          clear hwv hwv2
          have HO2 : Aside0 ((out ++ one o) ++ (f.drop (i + 1)).filterMap fd1 = r) := ⟨by rw [List.append_assoc, ← HF.out]; exact HO.out⟩
          clear HF HO
          cases o with
          | none =>
            have HWR2 := HWR
            rw [vOf_none] at HWR2
            clear HWR
            go_wp2_with (first | (go_at_call 15; (with_reducible refine HWR2.out.mono ?_); rintro e w4 ⟨rfl, hb4⟩; have HB4 := Aside0.mk (below_step HW1.out hb4); have HR4 := Aside0.mk (Kd.R_below HR1.out hb4); have HK4 := Aside0.mk (blk_below HK1.out hb4); clear hb4))
            go_roundg (f.length - (i + 1))
            case measure => omega
            case rel => exact ⟨i + 1, out, by (try simp); (try rfl), by omega, by omega, by omega, ⟨by have h9 := HO2.out; rw [show one none = ([] : List S30) from rfl, List.append_nil] at h9; exact h9⟩, ⟨Kd.R_alloc HR4.out _⟩, ⟨blk_below HK4.out (below_alloc (Below.refl _ _) _)⟩, ⟨below_alloc HB4.out _⟩⟩
          | some ed =>
            have HWR2 := HWR
            rw [vOf_some] at HWR2
            clear HWR
            have HO3 : Aside0 ((out ++ [ed]) ++ (f.drop (i + 1)).filterMap fd1 = r) := ⟨HO2.out⟩
            clear HO2
            go_wp2_with (first | (go_at_call 15; (with_reducible refine HWR2.out.mono ?_); rintro e w4 ⟨rfl, hb4⟩; have HB4 := Aside0.mk (below_step HW1.out hb4); have HR4 := Aside0.mk (Kd.R_below HR1.out hb4); have HK4 := Aside0.mk (blk_below HK1.out hb4); clear hb4; have HB5 := Aside0.mk (below_alloc HB4.out (.cells #[.int .i64 ed.f0, .int .i64 ed.f1, .string ed.f2] 30 (0, 0))); have HR5 := Aside0.mk (Kd.R_alloc HR4.out (.cells #[.int .i64 ed.f0, .int .i64 ed.f1, .string ed.f2] 30 (0, 0))); have HK5 := Aside0.mk (blk_below HK4.out (below_alloc (Below.refl w4.heap.size w4) (.cells #[.int .i64 ed.f0, .int .i64 ed.f1, .string ed.f2] 30 (0, 0))))) | ((with_reducible refine gate_builtin (b := .append) (xs := #[.tmp 56, .tmp 58]) rfl ?_); at_builtin; refine Kd.R_append k30 (w0 := W) W.heap.size rfl (.tmp 56) (.tmp 58) 31 30 (.agg #[(.int .i64 0), (.int .i64 0), (.string ⟨#[]⟩)]) 32 rfl Try.underlying31 info30 rfl (by decide) (by omega) u10 out ed [.int .i64 ed.f0, .int .i64 ed.f1, .string ed.f2] (fun _ => True) (fun _ => False) rfl (by first | rfl | (go_simp; done) | (go_simp; rfl)) (k30_mkM _ _ _ _) (fun _ hk => hk.elim) (fun _ _ => trivial) HR5.out HB5.out HB5.out.size (by omega) ?_; intro v1 w6 hr6 hb6 hg6 hat6; have HR6 := Aside0.mk hr6; have HB6 := Aside0.mk hb6; have HK6 := Aside0.mk (blk_grown HK5.out hg6 (Kd.R_ne HR5.out HK5.out (by decide))); clear hr6 hb6 hg6 hat6))
            go_roundg (f.length - (i + 1))
            case measure => omega
            case rel => exact ⟨i + 1, out ++ [ed], by (try simp); (try rfl), by omega, by omega, by simp; omega, HO3, HR6, HK6, HB6⟩
        · have cb : decide ((i : Int) < (f.length : Int)) = false := decide_eq_false c
          have hil : i = f.length := by omega
          have HO2 : Aside0 (out = r) := ⟨by have h9 := HO.out; rw [hil, List.drop_length] at h9; simpa using h9⟩
          have hcl : api_Edit.f out = some r := by
            unfold api_Edit.f
            rw [if_pos (by omega), HO2.out]
          clear HO hil ho hi hg
          obtain ⟨Ao, co, eo⟩ := Kd.R_slice HR.out
          subst eo
          go_wp2_with (first | (go_at_call 16; (with_reducible refine (api_Edit.calls Ao co out r _ (Kd.R_reads' HR.out).2.2 (Kd.R_reads' HR.out).2.1 hcl).mono ?_); rintro e w9 ⟨v0, rfl, ho0, hb9⟩; have HR9 := Aside0.mk (Kd.R_lower ho0 HB.out.size); have HB9 := Aside0.mk (below_step HB.out hb9); clear ho0 hb9))
          go_ret
          exact ⟨_, rfl, HR9.out, HB9.out⟩
end Go.Proofs.Ytagjfcogbnhmgaa.Sg
