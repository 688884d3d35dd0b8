/- Proved here, in the forms of the print's contracts: what each Go function answers, and the rows of the laws over it; by a program and by hand. -/
import Derived.Test.YthoogadfhopkfaaQ0
namespace Go.Proofs.Ythoogadfhopkfaa.Q
open Go.RowKit Go.Proofs.YthoogadfhopkfaaW.PrintWords Go.Proofs.YthoogadfhopkfaaW.PrintLast Go.Proofs.YthoogadfhopkfaaW.PrintMore
attribute [local go_sem] max2_int min2_int max_two min_two max_three min_three max_four min_four   -- for this text's walks alone
set_option linter.unusedVariables false
set_option linter.unusedSimpArgs false

/-! ### runes_Next: function 46 (by hand) -/
def runes_Next.f (l0 : List Int) : Option (Int × Int) := if (l0.length : Int) = 0 then some (-1, 0) else some (nextS (strOfNums (l0.take 4)))
set_option maxHeartbeats 1000000 in
set_option maxRecDepth 100000 in
theorem runes_Next.calls (A0 : Option Addr) (c0 : Nat) (l0 : List Int) (r1 : Int) (r2 : Int) (w : World) (hr0 : Kd.C (Kd.int .u8) w A0 l0.length l0) (hc0 : l0.length ≤ c0) (h : runes_Next.f l0 = some (r1, r2)) :
    Calls Try.prog 46 #[.slice A0 l0.length c0] w fun e w' => e = .returned (.tuple #[.int .i32 r1, .int .i64 r2]) ∧ Below w.heap.size w w' := by
  unfold runes_Next.f at h
  by_cases h0 : (l0.length : Int) = 0
  · rw [if_pos h0] at h
    simp only [Option.some.injEq, Prod.mk.injEq] at h
    obtain ⟨rfl, rfl⟩ := h
    have hb : ((l0.length : Int) == 0) = true := beq_iff_eq.mpr h0
    clear h0
    go_enter Try.func46, Try.ntmps46
    go_wp2
    go_ret2
    exact ⟨rfl, Below.refl _ _⟩
  · rw [if_neg h0] at h
    have hb : ((l0.length : Int) == 0) = false := beq_eq_false_iff_ne.mpr h0
    have hpos : 0 < l0.length := by omega
    clear h0
    have hcv := fun q (hq : q ≤ l0.length) => Kd.C_string (P := Try.prog) (A := A0) (c := c0) Try.underlying23 Try.underlying5 Try.underlying9 (Kd.C_of_reads (d := (0 : Int)) (h1 := fun _ => rfl) ((Kd.reads_of_C hr0).take_ q hq) : Kd.C (Kd.int .u8) w A0 q (l0.take q))
    have hne : 0 < (strOfNums (l0.take 4)).size := by simp [strOfNums, ByteArray.size]; omega
    generalize hs : strOfNums (l0.take 4) = s at *
    have hdw := dec_le_size s 0 hne
    have hw1 := Lib.decode_width_pos s 0 hne
    have hd1 := decode_le s 0
    have hh := Aside0.mk (Option.some.inj h)
    clear h
    obtain ⟨c, hc⟩ : ∃ c, (Utf8.decode s 0).1 = c := ⟨_, rfl⟩
    obtain ⟨n, hn⟩ : ∃ n, (Utf8.decode s 0).2 = n := ⟨_, rfl⟩
    rw [hn] at hdw hw1
    rw [hc] at hd1
    have hres : Aside0 ((if c = 65533 ∧ n < 3 then ((-1 : Int), (1 : Int)) else ((c : Int), (n : Int))) = (r1, r2)) := by
      refine ⟨?_⟩
      have := hh.out
      unfold nextS at this
      rw [hc, hn] at this
      exact this
    have Hc := Aside0.mk hc
    have Hn := Aside0.mk hn
    clear hc hn hh
    have hend : n ≤ s.size := by omega
    clear hdw
    by_cases h4 : (4 : Int) < (l0.length : Int)
    · have hcap : (4 : Int) ≤ (c0 : Int) := by omega
      have hcv1 : Sem.run Try.prog (convert 23 9 (.slice A0 4 c0)) w = .ok (.string s) w := by have := hcv 4 (by omega); rwa [hs] at this
      clear hcv hs hr0 hc0
      go_enter Try.func46, Try.ntmps46
      go_wp2
      go_loopw [2] (fun v w' => ∃ (pos acc : Nat), w' = w.iter s pos ∧ v = .int .i32 acc ∧ acc ≤ 2147483647 ∧ Aside0 ((pos = 0 ∧ acc = 0) ∨ (pos = n ∧ acc = c))) (fun _ w' => s.size - w'.iterPos w.heap.size)
      case atStart => exact ⟨0, 0, rfl, rfl, by omega, ⟨.inl ⟨rfl, rfl⟩⟩⟩
      case round =>
        obtain ⟨pos, acc, rfl, rfl, hacc, hr⟩ := hrel
        by_cases hp : pos < s.size
        · have hnx : ∀ ty, (Instr.next (.pointer (some ⟨w.heap.size, 0, none⟩)) true ty).run Try.prog (w.iter s pos) = _ := fun ty => run_next_any w s pos ty hp
          rcases hr.out with ⟨rfl, rfl⟩ | ⟨rfl, rfl⟩
          · rw [Hc.out, Hn.out] at hnx
            go_wp2
            go_roundw
            case rel => exact ⟨n, c, by simp, by go_num, hd1, ⟨.inr ⟨rfl, rfl⟩⟩⟩
            case measure => simp; omega
          · go_wp2
            all_goals go_ret2
            all_goals refine ⟨?_, below_alloc (Below.refl _ _) _⟩
            all_goals exact next_ends hres.out (by omega)
        · have hnx : ∀ ty, (Instr.next (.pointer (some ⟨w.heap.size, 0, none⟩)) true ty).run Try.prog (w.iter s pos) = _ := fun ty => run_next_end w s pos ty hp
          rcases hr.out with ⟨rfl, rfl⟩ | ⟨rfl, rfl⟩
          · exact absurd hne hp
          go_wp2
          all_goals go_ret2
          all_goals refine ⟨?_, below_alloc (Below.refl _ _) _⟩
          all_goals exact next_ends hres.out (by omega)
    · have hcap : (l0.length : Int) ≤ (c0 : Int) := by omega
      have hcv1 : Sem.run Try.prog (convert 23 9 (.slice A0 l0.length c0)) w = .ok (.string s) w := by have := hcv l0.length (by omega); rwa [show l0.take l0.length = l0.take 4 by rw [List.take_of_length_le (Nat.le_refl _), List.take_of_length_le (by omega)], hs] at this
      clear hcv hs hr0 hc0
      go_enter Try.func46, Try.ntmps46
      go_wp2
      go_loopw [2] (fun v w' => ∃ (pos acc : Nat), w' = w.iter s pos ∧ v = .int .i32 acc ∧ acc ≤ 2147483647 ∧ Aside0 ((pos = 0 ∧ acc = 0) ∨ (pos = n ∧ acc = c))) (fun _ w' => s.size - w'.iterPos w.heap.size)
      case atStart => exact ⟨0, 0, rfl, rfl, by omega, ⟨.inl ⟨rfl, rfl⟩⟩⟩
      case round =>
        obtain ⟨pos, acc, rfl, rfl, hacc, hr⟩ := hrel
        by_cases hp : pos < s.size
        · have hnx : ∀ ty, (Instr.next (.pointer (some ⟨w.heap.size, 0, none⟩)) true ty).run Try.prog (w.iter s pos) = _ := fun ty => run_next_any w s pos ty hp
          rcases hr.out with ⟨rfl, rfl⟩ | ⟨rfl, rfl⟩
          · rw [Hc.out, Hn.out] at hnx
            go_wp2
            go_roundw
            case rel => exact ⟨n, c, by simp, by go_num, hd1, ⟨.inr ⟨rfl, rfl⟩⟩⟩
            case measure => simp; omega
          · go_wp2
            all_goals go_ret2
            all_goals refine ⟨?_, below_alloc (Below.refl _ _) _⟩
            all_goals exact next_ends hres.out (by omega)
        · have hnx : ∀ ty, (Instr.next (.pointer (some ⟨w.heap.size, 0, none⟩)) true ty).run Try.prog (w.iter s pos) = _ := fun ty => run_next_end w s pos ty hp
          rcases hr.out with ⟨rfl, rfl⟩ | ⟨rfl, rfl⟩
          · exact absurd hne hp
          go_wp2
          all_goals go_ret2
          all_goals refine ⟨?_, below_alloc (Below.refl _ _) _⟩
          all_goals exact next_ends hres.out (by omega)

end Go.Proofs.Ythoogadfhopkfaa.Q
