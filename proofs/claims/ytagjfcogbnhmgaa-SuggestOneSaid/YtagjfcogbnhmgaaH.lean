/- Small facts about bytes, texts and worlds that the contracts proved by hand lean on. No program in them. -/
import Derived.Lib.SlBytesConst
import Derived.ArgAppend
import Derived.Lib.Bytealg
import Derived.Lib.FrozenHead
import Derived.Lib.OthersKept
import Derived.ScopeJumps
import Derived.WalkMore
import Derived.Lib.RuneCount
import Derived.Lib.RuneBytes
import Derived.Lib.OthersKept
import Derived.Laws.RangeString
import Derived.Laws.RangeAny
import Derived.LoopTactic
import Derived.WalkSpells
import Derived.WalkKit
import Derived.KernelRfl
import Derived.RowKit
import Derived.BigCall
import Derived.Stop.Asserts
import Derived.Test.YtagjfcogbnhmgaaWMore
namespace Go.Proofs.Ytagjfcogbnhmgaa.Q
open Go.RowKit Go.Proofs.YtagjfcogbnhmgaaW.PrintWords Go.Proofs.YtagjfcogbnhmgaaW.PrintLast Go.Proofs.YtagjfcogbnhmgaaW.PrintMore
set_option linter.unusedVariables false
set_option linter.unusedSimpArgs false


/-! A strings.Builder in a block of its own; what a call on it keeps. -/
/-- A builder at block g of W holds the text s; it was made behind w0. -/
def Bld (T e : Nat) (w0 W : World) (g : Nat) (s : ByteArray) : Prop := w0.heap.size ≤ W.heap.size ∧ Lib.IsBuilderF T e w0.heap.size g (Lib.strCells s) W
/-- All blocks but g, and but rows of e's, stand as they stood. -/
def KeepE (e : Nat) (w W : World) (g : Nat) : Prop := w.heap.size ≤ W.heap.size ∧ Lib.OthersKept e (some g) w W
/-- A block (if it is one) that is neither a builder nor a row of e's. -/
abbrev BldOff (T e : Nat) (W : World) (row : Option Nat) : Prop := ∀ b, row = some b → ∃ cs q, W.heap[b]? = some (.cells cs q (0, 0)) ∧ q ≠ T ∧ q ≠ e
section
variable {T e : Nat} {w0 W W1 w w1 : World} {g : Nat} {s : ByteArray}
theorem BuilderAtF_keep {B : Nat} {p : Value} {bs : List Value} (h : Lib.BuilderAtF T e B g p bs W) (hk : ∀ k cs q fr, k < W.heap.size → W.heap[k]? = some (.cells cs q fr) → (q = T ∨ q = e) → W1.heap[k]? = W.heap[k]?) : Lib.BuilderAtF T e B g p bs W1 := by
  obtain ⟨hB, v, hb, hown, hne⟩ := h
  refine ⟨hB, v, (hk g _ _ _ (blk_lt hb) hb (.inl rfl)).trans hb, ⟨hown.1, ?_⟩, hne⟩
  rcases hown.2 with hn | ⟨g', cap, cur, fz, hv, hbg, hg, rest⟩
  · exact .inl hn
  · exact .inr ⟨g', cap, cur, fz, hv, hbg, (hk g' _ _ _ (blk_lt hg) hg (.inr rfl)).trans hg, rest⟩
theorem Bld.keep (h : Bld T e w0 W g s) (hs : W.heap.size ≤ W1.heap.size) (hk : ∀ k cs q fr, k < W.heap.size → W.heap[k]? = some (.cells cs q fr) → (q = T ∨ q = e) → W1.heap[k]? = W.heap[k]?) : Bld T e w0 W1 g s :=
  ⟨Nat.le_trans h.1 hs, h.2.elim (fun x => .inl (BuilderAtF_keep x hk)) (fun x => .inr (BuilderAtF_keep x hk))⟩
theorem Bld.below (h : Bld T e w0 W g s) (hw : Below W.heap.size W W1) : Bld T e w0 W1 g s := h.keep hw.size (fun k _ _ _ hlt _ _ => hw.block k hlt)
theorem Bld.drewN (h : Bld T e w0 W g s) (m : Nat) : Bld T e w0 (W.drewN m) g s := h.below (pw_below_drewN (Below.refl _ _) m)
theorem Bld.drew (h : Bld T e w0 W g s) : Bld T e w0 W.drew g s := h.below (below_drew (Below.refl _ _))
theorem Bld.grown {row : Option Nat} (h : Bld T e w0 W g s) (hw : W.grownBy W1 row) (hne : BldOff T e W row) : Bld T e w0 W1 g s := by
  refine h.keep hw.size (fun k cs q fr hlt hc hq => hw.block k hlt ?_)
  intro e1
  obtain ⟨cs', q', h1, h2, h3⟩ := hne k e1.symm
  rw [hc] at h1
  injection h1 with h1
  injection h1 with _ h4
  subst h4
  exact hq.elim h2 h3
theorem Bld.lt (h : Bld T e w0 W g s) : g < W.heap.size := h.2.elim (fun ⟨_, _, hb, _⟩ => blk_lt hb) (fun ⟨_, _, hb, _⟩ => blk_lt hb)
theorem Bld.ge (h : Bld T e w0 W g s) : w0.heap.size ≤ g := h.2.elim (fun x => x.1) (fun x => x.1)
theorem Bld.blk (h : Bld T e w0 W g s) : ∃ cs, W.heap[g]? = some (.cells cs T (0, 0)) := h.2.elim (fun ⟨_, _, hb, _⟩ => ⟨_, hb⟩) (fun ⟨_, _, hb, _⟩ => ⟨_, hb⟩)
theorem Bld.off {α : Type} {d : Kd α} {e' base : Nat} {ok : Nat → Prop} {v : Value} {xs : List α} (ho : d.R e' W base ok v xs) (ht : e' ≠ T ∧ e' ≠ e) : BldOff T e W v.ownBlock := by
  intro b hb
  obtain ⟨inner, hown, _⟩ := ho.2
  rcases hown.2 with ⟨hv, _⟩ | ⟨g', cap, cur, hv, _, hg, _⟩
  · rw [hv] at hb; simp [Value.ownBlock] at hb
  · rw [hv] at hb
    simp only [Value.ownBlock, Option.some.injEq] at hb
    subst hb
    exact ⟨_, _, hg, ht.1, ht.2⟩
theorem KeepE.blk {o : Obj} {g' : Nat} (hk : KeepE e w w1 g) (hb : w.heap[g']? = some o) (hne : g' ≠ g) (ho : ∀ c fz, o ≠ .cells c e fz) : w1.heap[g']? = some o := hk.2 g' o hb (fun e1 => hne (Option.some.inj e1)) ho
theorem R_keepE {α : Type} {d : Kd α} {e' base : Nat} {ok : Nat → Prop} {v : Value} {xs : List α} (h : d.R e' w base (fun k => ok k ∧ k ≠ g) v xs) (hk : KeepE e w w1 g) (ht : ∀ q, q ∈ e' :: d.E → q ≠ e) : d.R e' w1 base ok v xs :=
  Kd.R_mono (Kd.R_step (Kd.R_bound h) (fun k hk' _ => by
    obtain ⟨⟨_, hne⟩, _, _, q, hq, cells, hc⟩ := hk'
    exact (hk.2 k _ hc (fun e1 => hne (Option.some.inj e1)) (fun c fz e1 => by injection e1 with _ e2; exact ht q hq e2)).trans hc.symm)) (fun _ h => h.1.1)
end
section
variable {P : Program} {ops : Array Oper} {rest : List Oper} {o : Oper} {a : Act} {Q : Exit → Act → World → Prop}
theorem bld_event {W : World} (hgd : o.guard = none) {N : Tmp} (_hd : o.dst = some N) {T e : Nat} (w0 : World) (hB : w0.heap.size ≤ W.heap.size)
    (hrun : (execOp a.eval o).run P W = .ok (.value (.pointer (some ⟨W.heap.size, 0, none⟩))) (W.alloc (.cells #[.pointer none, .slice none 0 0] T (0, 0))))
    (h : ∀ g w1, Bld T e w0 w1 g ⟨#[]⟩ → Below W.heap.size W w1 → wpList P ops Q rest (a.put o.dst (.pointer (some ⟨g, 0, none⟩))) w1) : wpList P ops Q (o :: rest) a W :=
  Kd.event_run hgd hrun (h _ _ ⟨Nat.le_trans hB (by simp), .inl ⟨hB, _, blk_new W _, World.ownsRowF_nil _ _ _ _, by simp [Value.ownBlock]⟩⟩ (below_alloc (Below.refl _ _) _))
end

/-! Bytes out of a text: a row that is only read (the model marks it as a conversion's). -/
theorem bytes_V (W : World) (e e2 b0 : Nat) (s : ByteArray) (hs : s.size ≤ 9223372036854775807) : Kd.V (Kd.int .u8) e2 (Lib.bytesWorld W e s) b0 (fun k_ => W.heap.size ≤ k_) (.slice (some ⟨W.heap.size, 0, none⟩) (bytesOf s).length (grownCap W s.size 0 e)) (bytesOf s) := by
  refine Kd.V_mk ?_ ?_
  · rw [bytesOf_length]; exact grownCap_ge W s.size 0 e
  · intro W' hW'
    have h1 := (hW' W.heap.size (Nat.le_refl _) (by rw [Lib.bytesWorld_size]; omega))
    refine Kd.C_of_reads (d := (0 : Int)) (h1 := fun _ => rfl) ⟨rfl, by rw [bytesOf_length]; exact hs, fun hn => ⟨⟨W.heap.size, 0, none⟩, rfl, fun j hj => ?_⟩⟩
    rw [bytesOf_length] at hn hj
    obtain ⟨ad, he, hc⟩ := (bytes_reads W e s hs).2.2 hn
    cases he
    rw [← hc j hj]
    have hb : (({ block := W.heap.size, off := 0, spot := none } : Addr).add j).block = W.heap.size := by unfold Addr.add; split <;> rfl
    unfold World.cell?
    rw [hb, h1]
section
variable {P : Program} {ops : Array Oper} {rest : List Oper} {o : Oper} {a : Act} {Q : Exit → Act → World → Prop} {Kc : Act → World → Prop}
theorem bytes_run {W : World} {src dst e : Nat} {x : Operand} {s : ByteArray} (ho : o.op = .convert src dst x) (hx : a.eval x = .string s) {u : TypeDesc} (hs : P.underlying src = some u) (hd : P.underlying dst = some (.slice e)) (he : P.underlying e = some (.int .u8)) :
    (execOp a.eval o).run P W = .ok (.value (.slice (some ⟨W.heap.size, 0, none⟩) (bytesOf s).length (grownCap W s.size 0 e))) (Lib.bytesWorld W e s) := by
  have h := Lib.run_convert_string_bytes (P := P) W src dst e s hs hd he
  rw [bytesOf_length]
  simp [execOp, ho, hx, h]
theorem bytes_event {W : World} (hgd : o.guard = none) {N : Tmp} (_hd : o.dst = some N) {src dst e : Nat} {x : Operand} {s : ByteArray} (ho : o.op = .convert src dst x) (hx : a.eval x = .string s) {u : TypeDesc} (hs : P.underlying src = some u) (hd : P.underlying dst = some (.slice e)) (he : P.underlying e = some (.int .u8)) (hsz : s.size ≤ 9223372036854775807)
    (h : ∀ v1 w1, Kd.V (Kd.int .u8) e w1 W.heap.size (fun k_ => W.heap.size ≤ k_) v1 (bytesOf s) → Below W.heap.size W w1 → wpList P ops Q rest (a.put o.dst v1) w1) : wpList P ops Q (o :: rest) a W :=
  Kd.event_run hgd (bytes_run ho hx hs hd he) (h _ _ (bytes_V W e e _ s hsz) (bytes_below (Below.refl _ _) (Nat.le_refl _) e s))
theorem bytes_step {W : World} (hw : Region.wanted o (yielded ops a.tmps) = true) {N : Tmp} (_hd : o.dst = some N) {src dst e : Nat} {x : Operand} {s : ByteArray} (ho : o.op = .convert src dst x) (hx : a.eval x = .string s) {u : TypeDesc} (hs : P.underlying src = some u) (hd : P.underlying dst = some (.slice e)) (he : P.underlying e = some (.int .u8)) (hsz : s.size ≤ 9223372036854775807)
    (h : ∀ v1 w1, Kd.V (Kd.int .u8) e w1 W.heap.size (fun k_ => W.heap.size ≤ k_) v1 (bytesOf s) → Below W.heap.size W w1 → Kc (a.put o.dst v1) w1) : if Region.wanted o (yielded ops a.tmps) = true then Oper.wp P o a W Kc Q else Kc (a.put o.dst undef) W :=
  event_step hw (bytes_run ho hx hs hd he) (h _ _ (bytes_V W e e _ s hsz) (bytes_below (Below.refl _ _) (Nat.le_refl _) e s))
end

/-! A range over a text: its iterator is a block of its own. -/
/-- The sign at a place of a text, and the next sign's place. -/
def rdRune (s : ByteArray) (p : Int) : Int := ((Utf8.decode s p.toNat).1 : Int)
def rdNext (s : ByteArray) (p : Int) : Int := ((p.toNat + (Utf8.decode s p.toNat).2 : Nat) : Int)
section
variable {P : Program} {ops : Array Oper} {rest : List Oper} {o : Oper} {a : Act} {Q : Exit → Act → World → Prop}
theorem iter_event {W : World} (hgd : o.guard = none) {N : Tmp} (_hd : o.dst = some N) {s : ByteArray}
    (hrun : (execOp a.eval o).run P W = .ok (.value (.pointer (some ⟨W.heap.size, 0, none⟩))) (W.alloc (.stringIter s 0)))
    (h : ∀ g, g = W.heap.size → ∀ w1, w1.heap[g]? = some (.stringIter s (0 : Int).toNat) → Below W.heap.size W w1 → wpList P ops Q rest (a.put o.dst (.pointer (some ⟨g, 0, none⟩))) w1) : wpList P ops Q (o :: rest) a W :=
  Kd.event_run hgd hrun (h _ rfl _ (blk_new W _) (below_alloc (Below.refl _ _) _))
theorem grown_iterAt (W : World) (g : Nat) (s : ByteArray) (p : Nat) : W.grownBy (W.iterAt g s p) (some g) :=
  ⟨rfl, rfl, rfl, by rw [Lib.iterAt_size]; exact Nat.le_refl _, fun k _ hk => Lib.iterAt_other W g k s p (fun e => hk (by rw [e]))⟩
theorem next_event {W : World} (hgd : o.guard = none) {N : Tmp} (_hd : o.dst = some N) {x : Operand} (ho : o.op = .next x true) {g : Nat} {s : ByteArray} {p : Int}
    (hx : a.eval x = .pointer (some ⟨g, 0, none⟩)) (hb : W.heap[g]? = some (.stringIter s p.toNat)) (h0 : 0 ≤ p) (h1 : p < (s.size : Int))
    (h : ∀ w2, w2.heap[g]? = some (.stringIter s (rdNext s p).toNat) → W.grownBy w2 (some g) → wpList P ops Q rest (a.put o.dst (.tuple #[.bool true, .int .i64 p, .int .i32 (rdRune s p)])) w2) : wpList P ops Q (o :: rest) a W := by
  have hr := Lib.run_next_any_at (P := P) W g s p.toNat o.type hb (by omega)
  refine Kd.event_run hgd (w1 := W.iterAt g s (p.toNat + (Utf8.decode s p.toNat).2)) ?_ (h _ ?_ (grown_iterAt W g s _))
  · simp [execOp, ho, hx, hr]
    exact ⟨by omega, rfl⟩
  · have := Lib.iterAt_heap W g s p.toNat (p.toNat + (Utf8.decode s p.toNat).2) hb
    unfold rdNext
    rw [Int.toNat_natCast]
    exact this
theorem next_end {W : World} {g : Nat} {s : ByteArray} {p : Int} (hb : W.heap[g]? = some (.stringIter s p.toNat)) (h1 : ¬ p < (s.size : Int)) :
    ∀ ty, (Instr.next (.pointer (some ⟨g, 0, none⟩)) true ty).run P W = .ok (.tuple #[.bool false]) W := fun ty => Lib.run_next_end_at W g s p.toNat ty hb (by omega)
end
/-- What is no row of cells (of the usual kind) is none of a row's blocks. -/
def NoRow (o : Obj) : Prop := ∀ cells q, o ≠ .cells cells q (0, 0)
theorem noRow_iter (s : ByteArray) (p : Nat) : NoRow (.stringIter s p) := fun _ _ h => by cases h
theorem R_iter {α : Type} {d : Kd α} {e base g : Nat} {ok : Nat → Prop} {W w1 : World} {v : Value} {xs : List α} {o : Obj} (h : d.R e W base ok v xs) (hb : W.heap[g]? = some o) (hn : NoRow o) (hg : W.grownBy w1 (some g)) : d.R e w1 base ok v xs :=
  Kd.R_mono (Kd.R_grown (Kd.R_bound h) hg (fun k hk e => by
    obtain ⟨q, _, cells, hc⟩ := hk.2.2.2
    injection e with e
    subst e
    rw [hb] at hc
    injection hc with hc
    exact hn _ _ hc)) (fun _ hk => hk.1)
/-- No sign is wider than what is left. -/
theorem dec_le_size (s : ByteArray) (pos : Nat) (h : pos < s.size) : pos + (Utf8.decode s pos).2 ≤ s.size := by
  simp only [Utf8.decode]
  repeat' split
  all_goals simp_all
  all_goals omega
/-- What runes.Next says of the sign with which a text begins. -/
def nextS (s : ByteArray) : Int × Int := if (Utf8.decode s 0).1 = 65533 ∧ (Utf8.decode s 0).2 < 3 then (-1, 1) else ((Utf8.decode s 0).1, (Utf8.decode s 0).2)
theorem next_ends {c n : Nat} {r1 r2 x y : Int} (h : (if c = 65533 ∧ n < 3 then ((-1 : Int), (1 : Int)) else ((c : Int), (n : Int))) = (r1, r2)) (he : (c = 65533 ∧ n < 3 ∧ x = -1 ∧ y = 1) ∨ (¬ (c = 65533 ∧ n < 3) ∧ x = c ∧ y = n)) :
    Ending.returned (.tuple #[.int .i32 x, .int .i64 y]) = .returned (.tuple #[.int .i32 r1, .int .i64 r2]) := by
  rcases he with ⟨h1, h2, rfl, rfl⟩ | ⟨h1, rfl, rfl⟩
  · rw [if_pos ⟨h1, h2⟩] at h
    simp only [Prod.mk.injEq] at h
    obtain ⟨rfl, rfl⟩ := h
    rfl
  · rw [if_neg h1] at h
    simp only [Prod.mk.injEq] at h
    obtain ⟨rfl, rfl⟩ := h
    rfl

/-! A scope with one label ahead of which the gotos stand. -/
/-- As Q; by a goto to label l: what follows the label. -/
def ExitFwd (P : Program) (l : Nat) (rest : Code) (Q : Exit → Act → World → Prop) : Exit → Act → World → Prop
  | .goto l', a, w => l' = l ∧ rest.wp P (Exit.noGoto Q) a w
  | e, a, w => Q e a w
section
variable {P : Program} {l : Nat} {rest : Code} {Q : Exit → Act → World → Prop} {a : Act} {w : World}
@[go_sem] theorem ExitFwd_normal : ExitFwd P l rest Q .normal a w = Q .normal a w := rfl
@[go_sem] theorem ExitFwd_exit (id : Nat) : ExitFwd P l rest Q (.exit id) a w = Q (.exit id) a w := rfl
@[go_sem] theorem ExitFwd_ret : ExitFwd P l rest Q .ret a w = Q .ret a w := rfl
@[go_sem] theorem ExitFwd_panic (ch : List PanicEntry) : ExitFwd P l rest Q (.panic ch) a w = Q (.panic ch) a w := rfl
@[go_sem] theorem ExitFwd_goto : ExitFwd P l rest Q (.goto l) a w = rest.wp P (Exit.noGoto Q) a w := propext ⟨fun h => h.2, fun h => ⟨rfl, h⟩⟩
theorem ExitFwd_go (h : rest.wp P (Exit.noGoto Q) a w) : ExitFwd P l rest Q (.goto l) a w := ⟨rfl, h⟩
theorem wp_scope_fwd {c : Code} (l : Nat) (hf : findLabel c l = some rest) (h : c.wp P (ExitFwd P l rest Q) a w) : (Code.scope c).wp P Q a w := by
  refine wp_scope_jumps l (fun a w => rest.wp P (Exit.noGoto Q) a w) (fun _ _ => 0) hf ?_ ?_
  · intro b k cs
    obtain ⟨e, a₁, w₁, hq, harr⟩ := h b k cs
    refine ⟨e, a₁, w₁, ?_, harr⟩
    cases e <;> exact hq
  · intro a w hJ b k cs
    obtain ⟨e, a₁, w₁, hq, harr⟩ := hJ b k cs
    refine ⟨e, a₁, w₁, ?_, harr⟩
    cases e <;> first | exact hq | exact hq.elim
end

/-! Bytes out of a text, and an append to them: with room (the row itself is written) or without (a new one). -/
def BV (e g0 : Nat) (W : World) (v : Value) (xs : List Int) : Prop :=
  ∃ (g cap : Nat) (cs : Array Value) (fr : Nat × Nat), v = .slice (some ⟨g, 0, none⟩) xs.length cap ∧ g0 ≤ g ∧ W.heap[g]? = some (.cells cs e fr) ∧ cap ≤ fr.1 ∧ cs.size = cap ∧ xs.length ≤ cap ∧ ∀ j, j < xs.length → cs[j]? = some (.int .u8 (xs.getD j 0))
theorem BV.low {e g0 g1 : Nat} {W : World} {v : Value} {xs : List Int} (h : BV e g0 W v xs) (hg : g1 ≤ g0) : BV e g1 W v xs := by
  obtain ⟨g, cap, cs, fr, h1, h2, h3⟩ := h
  exact ⟨g, cap, cs, fr, h1, by omega, h3⟩
theorem BV.drewN {e g0 : Nat} {W : World} {v : Value} {xs : List Int} (h : BV e g0 W v xs) (n : Nat) : BV e g0 (W.drewN n) v xs := h
theorem bytes_BV (W : World) (e : Nat) (s : ByteArray) : BV e W.heap.size (Lib.bytesWorld W e s) (.slice (some ⟨W.heap.size, 0, none⟩) (bytesOf s).length (grownCap W s.size 0 e)) (bytesOf s) := by
  have hge := grownCap_ge W s.size 0 e
  have hn := Lib.bytesWorld_at_new W e s
  have hsz : (Lib.bytesCells W e s).size = grownCap W s.size 0 e := by
    have : s.data.size = s.size := rfl
    unfold Lib.bytesCells
    rw [Array.size_append, Array.size_map, Array.size_replicate]
    omega
  refine ⟨W.heap.size, grownCap W s.size 0 e, _, _, rfl, Nat.le_refl _, hn, by rw [hsz]; exact Nat.le_refl _, hsz, by rw [bytesOf_length]; exact hge, fun j hj => ?_⟩
  rw [bytesOf_length] at hj
  have hc := Lib.bytesWorld_cell W e s j hj
  rw [cell_of_row _ _ j _ _ _ hn] at hc
  rw [hc]
  congr 2
  have hl : j < s.data.toList.length := by rw [Array.length_toList]; exact hj
  unfold bytesOf
  rw [List.getD_eq_getElem?_getD, List.getD_eq_getElem?_getD, List.getElem?_map, List.getElem?_eq_getElem hl]
  rfl
section
variable {P : Program} {ops : Array Oper} {rest : List Oper} {o : Oper} {a : Act} {Q : Exit → Act → World → Prop} {Kc : Act → World → Prop}
theorem bytes_event2 {W : World} (hgd : o.guard = none) {N : Tmp} (_hd : o.dst = some N) {src dst e : Nat} {x : Operand} {s : ByteArray} (ho : o.op = .convert src dst x) (hx : a.eval x = .string s) {u : TypeDesc} (hs : P.underlying src = some u) (hd : P.underlying dst = some (.slice e)) (he : P.underlying e = some (.int .u8)) (hsz : s.size ≤ 9223372036854775807)
    (h : ∀ v1 w1, Kd.V (Kd.int .u8) e w1 W.heap.size (fun k_ => W.heap.size ≤ k_) v1 (bytesOf s) → Below W.heap.size W w1 → BV e W.heap.size w1 v1 (bytesOf s) → wpList P ops Q rest (a.put o.dst v1) w1) : wpList P ops Q (o :: rest) a W :=
  Kd.event_run hgd (bytes_run ho hx hs hd he) (h _ _ (bytes_V W e e _ s hsz) (bytes_below (Below.refl _ _) (Nat.le_refl _) e s) (bytes_BV W e s))
theorem below_setCells {B : Nat} {w0 : World} (g : Nat) (hg : B ≤ g) : ∀ (vs : List Value) (q : Nat) (w : World), Below B w0 w → Below B w0 (w.setCells g q vs)
  | [], _, w, h => h
  | v :: vs, q, w, h => below_setCells g hg vs (q + 1) (w.setCell ⟨g, q, none⟩ v) (h.setCell hg v)
theorem append_bytes_event {w0 W : World} (base : Nat) (hgd : o.guard = none) (s x : Operand) (t e : TypeId)
    (ho : o.op = .call { callee := .builtin .append, args := #[s, x], argTypes := #[t, t] })
    (ht : P.underlying t = some (.slice e)) (hinfo : (P.info? e).map (fun i => (i.zero, i.size, i.bytes)) = some (some (.int .u8 0), 1, 1))
    (v : Value) (xs ys : List Int) (A : Option Addr) (m c : Nat) (hs : a.eval s = v) (hx : a.eval x = .slice A m c)
    (hbv : BV e base W v xs) (HR : Kd.C (Kd.int .u8) W A m ys) (HB : Below base w0 W) (hbase : base ≤ W.heap.size) (hl : xs.length + m ≤ 140737488355328)
    (h : ∀ v1 w1, Kd.V (Kd.int .u8) e w1 base (fun k_ => base ≤ k_) v1 (xs ++ ys) → Below base w0 w1 → wpList P ops Q rest (a.put o.dst v1) w1) :
    wpList P ops Q (o :: rest) a W := by
  obtain ⟨i0, hi, hzz⟩ := Option.map_eq_some_iff.1 hinfo
  simp only [Prod.mk.injEq] at hzz
  obtain ⟨hz0, hz1, hz2⟩ := hzz
  obtain ⟨g, cap, cs, fr, hv, hgb, hblk, hfr, hcs, hn, hcell⟩ := hbv
  have hr : ReadsOf (Value.int .u8) 0 W A m ys := Kd.reads_of_C (h1 := fun _ => rfl) HR
  have hm : ys.length = m := hr.1
  have hat : ∀ j, W.cell? ⟨g, j, none⟩ = cs[j]? := fun j => cell_of_row _ _ j _ _ _ hblk
  have hlen : (xs ++ ys).length = xs.length + m := by rw [List.length_append, hm]
  rcases A with _ | ad
  · have h0 : m = 0 := by
      rcases Nat.eq_zero_or_pos m with h0 | h0
      · exact h0
      · obtain ⟨ad, h, _⟩ := hr.2.2 h0
        cases h
    subst h0
    obtain rfl : ys = [] := List.eq_nil_of_length_eq_zero hm
    have hrun : (Builtin.append_ #[t, t] o.type #[v, .slice none 0 c]).run P W = .ok v W := by
      rw [hv]
      simp [Builtin.append_, run_underlying ht, sizeOf, typeInfo, hi, Builtin.lenOf, Builtin.firstCells, hn, storeCells]
    refine wpList_plain hgd fun K hK => ?_
    unfold Oper.wp execOp
    simp only [ho, resolve, invoke, builtin, Sem.run_bind, Sem.run_pure, Result.andThen_ok, List.map_toArray, List.map_cons, List.map_nil, hs, hx, hrun]
    refine hK _ _ (h v W ?_ HB)
    rw [List.append_nil, hv]
    refine Kd.V_mk hn fun W' hW' => ?_
    have e1 := hW' g hgb (Array.getElem?_eq_some_iff.1 hblk).1
    refine Kd.C_of_reads (d := (0 : Int)) (h1 := fun _ => rfl) ⟨rfl, by simp at hl; omega, fun _ => ⟨⟨g, 0, none⟩, rfl, fun j hj => ?_⟩⟩
    rw [Addr.add_lit, Nat.zero_add, cell_of_row W' g j cs e fr (e1.trans hblk)]
    exact hcell j hj
  · have hcells : ∀ j, j < m → W.cell? (ad.add j) = some (.int .u8 (ys.getD j 0)) := fun j hj => by
      obtain ⟨ad', he, hc⟩ := hr.2.2 (by omega)
      cases he
      exact hc j hj
    have nget : ∀ (l : List Int) (j : Nat) (u : Value), (l.map (Value.int .u8))[j]? = some u → j < l.length ∧ u = .int .u8 (l.getD j 0) := by
      intro l j u hu
      rw [List.getElem?_map] at hu
      by_cases hj : j < l.length
      · rw [List.getElem?_eq_getElem hj] at hu
        refine ⟨hj, ?_⟩
        rw [List.getD_eq_getElem?_getD, List.getElem?_eq_getElem hj]
        exact (Option.some.inj hu).symm
      · rw [List.getElem?_eq_none (by omega)] at hu
        cases hu
    refine wpList_append_arg W hgd s x t ho e i0 (.int .u8 0) 1 1 ht hi hz0 hz1 hz2 rfl (by decide) g 0 xs.length cap (xs.map (Value.int .u8)) (hs.trans hv) (by simp) (fun j u hu => ?_) ad m c (ys.map (Value.int .u8)) hx (by simp [hm]) (fun j u hu => ?_) (fun u hu => ?_) (fun hroom j hj => ?_) (by simp only [maxLen]; omega) (by omega) (fun hroom => ?_) (fun hg v' w' hown hgr => ?_)
    · obtain ⟨hj, rfl⟩ := nget xs j u hu
      rw [Nat.zero_add, hat]
      exact hcell j hj
    · obtain ⟨hj, rfl⟩ := nget ys j u hu
      exact hcells j (by omega)
    · obtain ⟨y, _, rfl⟩ := List.mem_map.1 hu
      rfl
    · have hj' : j < m := by rw [List.length_map, hm] at hj; exact hj
      refine ⟨?_, ?_⟩
      · rw [hat, Array.getElem?_eq_getElem (by omega)]
        rfl
      · simp only [World.frozen?, hblk, Nat.zero_add, Nat.mul_one]
        rw [Bool.and_eq_false_iff]
        exact .inl (decide_eq_false (by omega))
    · refine h _ _ ?_ (below_setCells g hgb _ _ W HB)
      rw [← hlen]
      refine Kd.V_mk (by omega) fun W' hW' => ?_
      have hsz : g < (W.setCells g (0 + xs.length * 1) (ys.map (Value.int .u8))).heap.size := by
        have hb := below_setCells (B := g) (w0 := W) g (Nat.le_refl g) (ys.map (Value.int .u8)) (0 + xs.length * 1) W (Below.refl _ _)
        have := (Array.getElem?_eq_some_iff.1 hblk).1
        have := hb.size
        omega
      have e1 := hW' g hgb hsz
      refine Kd.C_of_reads (d := (0 : Int)) (h1 := fun _ => rfl) ⟨rfl, by omega, fun _ => ⟨⟨g, 0, none⟩, rfl, fun j hj => ?_⟩⟩
      have e2 : W'.cell? ⟨g, j, none⟩ = (W.setCells g (0 + xs.length * 1) (ys.map (Value.int .u8))).cell? ⟨g, j, none⟩ := by
        unfold World.cell?
        rw [e1]
      rw [Addr.add_lit, Nat.zero_add, e2]
      by_cases hj2 : j < xs.length
      · rw [World.cell?_setCells_out g _ _ _ _ (fun _ _ => .inl (by show j < 0 + xs.length * 1; omega)), hat, hcell j hj2]
        congr 2
        rw [List.getD_eq_getElem?_getD, List.getD_eq_getElem?_getD, List.getElem?_append_left hj2]
      · have hin := World.cell?_setCells_in g (ys.map (Value.int .u8)) (0 + xs.length * 1) W (fun q hq => by
          rw [List.length_map, hm] at hq
          rw [hat, Array.getElem?_eq_getElem (by omega)]
          rfl) (j - xs.length) (by rw [List.length_map]; omega)
        rw [show 0 + xs.length * 1 + (j - xs.length) = j by omega] at hin
        rw [hin, List.getElem_map]
        congr 2
        rw [List.getD_eq_getElem?_getD, List.getElem?_append_right (by omega), List.getElem?_eq_getElem (by omega)]
        rfl
    · have hown' : w'.ownsRow W.heap.size e 1 v' (xs ++ ys).length (encs (Value.int .u8) (xs ++ ys)) := by
        rw [hlen]
        unfold encs
        rw [List.map_append]
        exact hown
      have hR := Kd.R_of_own (h1 := fun _ => rfl) (ok := fun k => W.heap.size ≤ k) hown' (fun k hk => own_base hown k hk)
      refine h v' w' ?_ (HB.grown hgr hbase (fun k hk => by cases hk))
      obtain ⟨A', c', hv'⟩ := Kd.R_slice hR
      subst hv'
      refine Kd.V_mono (Kd.V_mk (Kd.R_reads' hR).2.1 (Kd.R_F hR)) (fun k hk => Nat.le_trans hbase hk)
end

/-! The bytes of a constant text: a literal's row, and the conversion that marks it. -/
section
variable {P : Program} {ops : Array Oper} {rest : List Oper} {o : Oper} {a : Act} {Q : Exit → Act → World → Prop} {Kc : Act → World → Prop}
theorem lit_conv_event {w : World} {C : Array Value} (hgd : o.guard = none) {N : Tmp} (_hd : o.dst = some N) {t e : Nat} {x : Operand} (xs : List Int) (hC : C = (xs.map (Value.int .u8)).toArray) {n c : Nat} (hn : n = xs.length) (hc : n ≤ c)
    (ho : o.op = .convert t t x) (hx : a.eval x = .slice (some ⟨w.heap.size, 0, none⟩) n c) (ht : P.underlying t = some (.slice e)) (he : P.underlying e = some (.int .u8)) (hl : xs.length ≤ 9223372036854775807)
    (h : ∀ v1 w1, Kd.V (Kd.int .u8) e w1 w.heap.size (fun k_ => w.heap.size ≤ k_) v1 xs → Below w.heap.size w w1 → wpList P ops Q rest (a.put o.dst v1) w1) : wpList P ops Q (o :: rest) a (w.alloc (.cells C e)) := by
  subst hn
  have hr : (execOp a.eval o).run P (w.alloc (.cells C e)) = .ok (.value (.slice (some ⟨w.heap.size, 0, none⟩) xs.length c)) (w.alloc (.cells C e (C.size, C.size + 1))) := by
    have h1 := Lib.run_convert_bytes_const (P := P) w t e C xs.length c ht he
    simp [execOp, ho, hx, h1]
  refine Kd.event_run hgd hr (h _ _ (Kd.V_mk hc fun W' hW' => ?_) (below_alloc (Below.refl _ _) _))
  have hsz : w.heap.size < (w.alloc (.cells C e (C.size, C.size + 1))).heap.size := by simp
  have e1 := (hW' w.heap.size (Nat.le_refl _) hsz).trans (heap_alloc_new w (.cells C e (C.size, C.size + 1)))
  refine Kd.C_of_reads (d := (0 : Int)) (h1 := fun _ => rfl) ⟨rfl, hl, fun _ => ⟨⟨w.heap.size, 0, none⟩, rfl, fun j hj => ?_⟩⟩
  rw [Addr.add_lit, Nat.zero_add, cell_of_row W' _ j _ _ _ e1, hC]
  rw [List.getElem?_toArray, List.getElem?_map, List.getElem?_eq_getElem hj, List.getD_eq_getElem?_getD, List.getElem?_eq_getElem hj]
  rfl
end
end Go.Proofs.Ytagjfcogbnhmgaa.Q
