/- Proved here, in the forms of the print's contracts: what each Go function answers, and the rows of the laws over it; by a program and by hand. -/
import Derived.Test.YtpinegfbcbfnoaaQ0
import Derived.Test.YtpinegfbcbfnoaaQstringslite
import Derived.Test.YtpinegfbcbfnoaaQutf8
namespace Go.Proofs.Ytpinegfbcbfnoaa.Q
open Go.RowKit Go.Proofs.YtpinegfbcbfnoaaW.PrintWords Go.Proofs.YtpinegfbcbfnoaaW.PrintLast Go.Proofs.YtpinegfbcbfnoaaW.PrintMore
attribute [local go_sem] max2_int min2_int max_two min_two max_three min_three max_four min_four   -- for this text's walks alone
set_option linter.unusedVariables false
set_option linter.unusedSimpArgs false

/-! ### strings_IndexByte: function 41 -/
def strings_IndexByte.f (a0 : ByteArray) (a1 : Int) : Option (Int) := (stringslite_IndexByte.f a0 a1).bind fun t101 => (some t101)
set_option maxHeartbeats 8000000 in
set_option maxRecDepth 100000 in
theorem strings_IndexByte.calls (a0 : ByteArray) (a1 : Int) (r : Int) (w : World) (h : strings_IndexByte.f a0 a1 = some r) :
    Calls Try.prog 41 #[.string a0, .int .u8 a1] w fun e w' => e = .returned (.int .i64 r) ∧ Drawn0 w w' := by
  have H : ((stringslite_IndexByte.f a0 a1).bind fun t101 => (some t101)) = some r := h
  clear h
  replace H := Option.bind_eq_some_iff.mp H
  obtain ⟨t101, A30, H⟩ := H
  replace H : (some t101) = some r := H
  have A3 := Aside0.mk A30
  clear A30
  obtain rfl := Option.some.inj H
  go_enter Try.func41, Try.ntmps41
  go_wp2_with (first | ((with_reducible refine gate_callee (f := 45) rfl ?_); refine goesL_ (some 7) rfl rfl Try.func45 (by kernel_rfl) rfl #[.string a0, .int .u8 a1] rfl (by (try simp only [List.map_toArray, List.map_cons, List.map_nil]); first | done | rfl | (simp only [List.length_drop, List.length_take]; rfl) | (simp only [ByteArray.size_extract, Nat.min_self]; done) | (simp only [ByteArray.size_extract, Nat.min_self]; rfl)) ?_; (with_reducible refine (stringslite_IndexByte.calls a0 a1 t101 _ A3.out).mono ?_); rintro e w' ⟨rfl, ⟨nd, rfl⟩⟩; refine ⟨_, rfl, ?_⟩))
  go_ret
  exact ⟨by first | rfl | (simp; done) | (simp [*]; done), by repeat (first | exact Drawn0.refl _ | apply Drawn0.step)⟩

-- NOT PRINTED: function 31 (strings_IndexRune)

/-! ### strings_shouldUseASCIISet: function 32 -/
def strings_shouldUseASCIISet.f (a0 : Int) : Option (Bool) := some (decide (a0 > 8))
set_option maxHeartbeats 8000000 in
set_option maxRecDepth 100000 in
theorem strings_shouldUseASCIISet.calls (a0 : Int) (r : Bool) (w : World) (h : strings_shouldUseASCIISet.f a0 = some r) :
    Calls Try.prog 32 #[.int .i64 a0] w fun e w' => e = .returned (.bool r) ∧ Drawn0 w w' := by
  have H : (some (decide (a0 > 8))) = some r := h
  clear h
  obtain rfl := Option.some.inj H
  go_enter Try.func32, Try.ntmps32
  go_wp2
  go_ret
  exact ⟨by first | rfl | (simp; done) | (simp [*]; done), by repeat (first | exact Drawn0.refl _ | apply Drawn0.step)⟩

-- NOT PRINTED: function 33 (strings_makeASCIISet)

-- NOT PRINTED: function 34 (strings_asciiSet_contains)

/-! ### strings_IndexAny: function 22 (by hand) -/
set_option maxHeartbeats 1000000 in
set_option maxRecDepth 100000 in
theorem strings_IndexAny.rune_e (w : World) : Calls Try.prog 31 #[.string (⟨#[13, 10]⟩ : ByteArray), .int .i32 233] w fun e w' => e = .returned (.int .i64 (-1)) ∧ ∃ m, w' = w.drewN m := by
  have hv : utf8_ValidRune.f 5 233 = some true := by decide +kernel
  go_enter Try.func31, Try.ntmps31
  go_wp2_with (first | (go_at_call 42; refine (utf8_ValidRune.calls 5 233 true _ hv).mono ?_; rintro e w' ⟨rfl, ⟨nd, rfl⟩⟩))
  have e1 : Utf8.encode 233 = (⟨#[195, 169]⟩ : ByteArray) := by decide +kernel
  have e2 : wrap64 (((⟨#[195, 169]⟩ : ByteArray).size : Int) - 1) = 1 := by decide +kernel
  have e3 : (((⟨#[195, 169]⟩ : ByteArray)[1]).toNat : Int) = 169 := rfl
  have e5 : (((⟨#[13, 10]⟩ : ByteArray)[1]).toNat : Int) = 10 := rfl
  have e4 : IntKind.i64.wrap 2 = 2 := by decide +kernel
  have hx : strings_IndexByte.f ((⟨#[13, 10]⟩ : ByteArray).extract 2 2) 169 = some (-1) := by decide +kernel
  refine wp_scope_fwd 1 rfl ?_
  go_wp2
  go_loopg [9] 1 (fun g v9 w' => v9 = .int .i64 1 ∧ ∃ m, w' = w.drewN m)
  case atStart => exact ⟨rfl, _, rfl⟩
  case round =>
    obtain ⟨rfl, mB, rfl⟩ := hrel
    go_wp2
    refine wp_scope_fwd 0 rfl ?_
    go_wp2
    go_quiet (fail)
    go_wp2
    go_quiet ((refine (strings_IndexByte.calls ByteArray.empty 169 (-1) _ (by decide +kernel)).mono ?_; rintro e w'' ⟨h1, ⟨m, h2⟩⟩; exact ⟨h1, _, by rw [h2, World.drewN_drewN, Nat.add_assoc]⟩))
    go_wp2
    go_simp
    go_ret
    exact ⟨rfl, _, by first | rfl | (simp only [World.drewN_drewN]; rfl)⟩
/-- Bytes below 128, and the sign of the bytes 195 169. -/
def strings_IndexAny.eAsc : List UInt8 → Bool
  | [] => true
  | [b] => decide (b.toNat < 128)
  | b :: c :: t => if b.toNat < 128 then strings_IndexAny.eAsc (c :: t) else decide (b = 195 ∧ c = 169) && strings_IndexAny.eAsc t
theorem strings_IndexAny.decode_e (s : ByteArray) (i : Nat) (h0 : s.get! i = 195) (h1 : s.get! (i + 1) = 169) (h2 : i + 1 < s.size) : Utf8.decode s i = (233, 2) := by
  unfold Utf8.decode
  simp only [Nat.add_zero, h0, h1, decide_eq_true h2]
  rw [if_neg (by decide), if_pos (by decide), if_pos (by decide)]
  rfl
theorem strings_IndexAny.get_list (s : ByteArray) (i : Nat) (x : UInt8) (h : s.data.toList[i]? = some x) : s.get! i = x := by
  obtain ⟨hl, hx⟩ := List.getElem?_eq_some_iff.1 h
  have hs : i < s.size := by rw [Array.length_toList] at hl; exact hl
  show s.data[i]! = x
  rw [getElem!_pos s.data i hs]
  rw [Array.getElem_toList] at hx
  exact hx
set_option maxHeartbeats 1000000 in
set_option maxRecDepth 100000 in
theorem strings_IndexAny.any_e (s : ByteArray) (h8 : s.size ≤ 8) (hE : strings_IndexAny.eAsc s.data.toList = true) (w : World) : Calls Try.prog 22 #[.string s, .string (⟨#[13, 10]⟩ : ByteArray)] w fun e w' => e = .returned (.int .i64 (Lib.indexAny s.data.toList [13, 10])) ∧ Below w.heap.size w w' := by
  have HE := Aside0.mk hE
  clear hE
  have hz : ((⟨#[13, 10]⟩ : ByteArray).size : Int) = 2 := rfl
  have hu : strings_shouldUseASCIISet.f (s.size : Int) = some false := by unfold strings_shouldUseASCIISet.f; rw [decide_eq_false (by omega)]
  have hemp : (⟨#[13, 10]⟩ : ByteArray).toList.isEmpty = false := by rw [ByteArray.toList_eq]; rfl
  have hl : (⟨#[13, 10]⟩ : ByteArray).toList = [13, 10] := by rw [ByteArray.toList_eq]
  go_enter Try.func22, Try.ntmps22
  go_wp2_with (first | (go_at_call 32; refine (strings_shouldUseASCIISet.calls (s.size : Int) false _ hu).mono ?_; rintro e w' ⟨rfl, ⟨nd, rfl⟩⟩))
  go_loopg [9, 10] (s.size + 1) (fun g _ _ wx => ∃ i m : Nat, i ≤ s.size ∧ s.size < i + g ∧ wx = (w.drewN m).iter s i ∧ Aside0 (Lib.NoAny s.data.toList [13, 10] i) ∧ Aside0 (strings_IndexAny.eAsc (s.data.toList.drop i) = true))
  case atStart => exact ⟨0, nd, Nat.zero_le _, by omega, rfl, ⟨Lib.NoAny.zero _ _⟩, HE⟩
  case round =>
    clear HE
    obtain ⟨i, m, hi1, hi2, rfl, HN, HE⟩ := hrel
    cases gk with
    | zero => omega
    | succ g =>
      by_cases hi : i < s.size
      · obtain ⟨x, hx⟩ : ∃ x : UInt8, s.data.toList[i]? = some x := ⟨_, List.getElem?_eq_getElem (by rw [Array.length_toList]; exact hi)⟩
        have Hx := Aside0.mk hx
        have hg := strings_IndexAny.get_list s i x hx
        have hdrop : s.data.toList.drop i = x :: s.data.toList.drop (i + 1) := by
          obtain ⟨hl2, hx2⟩ := List.getElem?_eq_some_iff.1 hx
          rw [List.drop_eq_getElem_cons hl2, hx2]
        have hE := HE.out
        rw [hdrop] at hE
        have Hg := Aside0.mk hg
        clear hx hg
        have hnx := fun ty => run_next_any (P := Try.prog) (w.drewN m) s i ty hi
        simp only [World.heap_drewN] at hnx
        by_cases ha : x.toNat < 128
        · have hdec : Utf8.decode s i = (x.toNat, 1) := by
            unfold Utf8.decode
            simp only [Nat.add_zero, Hg.out, if_pos ha]
          rw [hdec] at hnx
          have hE2 : Aside0 (strings_IndexAny.eAsc (s.data.toList.drop (i + 1)) = true) := ⟨by
            revert hE
            cases s.data.toList.drop (i + 1) with
            | nil => intro _; rfl
            | cons c t => intro h; rw [strings_IndexAny.eAsc, if_pos ha] at h; exact h⟩
          clear hE hdec
          have hcon := Lib.contains_iff_indexByte (⟨#[13, 10]⟩ : ByteArray).data.toList x
          have hback : ((x.toNat : Int)).toNat.toUInt8 = x := by simp
          have Hc := fun w => Any.strings_IndexRune_ascii { Sh.shelf153 with } (⟨#[13, 10]⟩ : ByteArray) (x.toNat : Int) w (by omega) (by omega)
          cases hin : (⟨#[13, 10]⟩ : ByteArray).data.toList.contains x
          · rw [hin] at hcon
            have hlt : ¬ ((0 : Int) ≤ Lib.indexByte (⟨#[13, 10]⟩ : ByteArray).data.toList x) := of_decide_eq_false hcon.symm
            clear hcon
            go_wp2_with (first | (go_at_call 31; refine (Hc _).mono ?_; rintro e w' ⟨rfl, hw⟩; rw [hw, hback]))
            go_roundg g
            case measure => omega
            case rel => exact ⟨i + 1, _, by omega, by omega, rfl, ⟨HN.out.succ Hx.out hin⟩, hE2⟩
          · rw [hin] at hcon
            have hge : (0 : Int) ≤ Lib.indexByte (⟨#[13, 10]⟩ : ByteArray).data.toList x := of_decide_eq_true hcon.symm
            clear hcon
            go_wp2_with (first | (go_at_call 31; refine (Hc _).mono ?_; rintro e w' ⟨rfl, hw⟩; rw [hw, hback]))
            go_ret
            exact ⟨by rw [Lib.indexAny_hit HN.out Hx.out hin]; rfl, by unfold World.iter; repeat (first | exact Below.refl _ _ | apply below_alloc | apply pw_below_drewN)⟩
        · have hq : ∃ t, s.data.toList.drop (i + 1) = 169 :: t ∧ x = 195 ∧ strings_IndexAny.eAsc t = true := by
            revert hE
            cases s.data.toList.drop (i + 1) with
            | nil => intro h; rw [strings_IndexAny.eAsc] at h; exact absurd (of_decide_eq_true h) ha
            | cons c t =>
              intro h
              rw [strings_IndexAny.eAsc, if_neg ha, Bool.and_eq_true, decide_eq_true_eq] at h
              exact ⟨t, by rw [h.1.2], h.1.1, h.2⟩
          obtain ⟨t, ht, hx195, hE3⟩ := hq
          have hlen := congrArg List.length ht
          rw [List.length_drop, Array.length_toList, List.length_cons] at hlen
          have hi3 : i + 1 < s.size := by
            have : s.data.size = s.size := rfl
            omega
          have hx1 : s.data.toList[i + 1]? = some 169 := by
            have := congrArg List.head? ht
            rwa [List.head?_drop, List.head?_cons] at this
          have ht2 : Aside0 (strings_IndexAny.eAsc (s.data.toList.drop (i + 2)) = true) := ⟨by
            have := congrArg List.tail ht
            rw [List.tail_drop, List.tail_cons] at this
            rw [show i + 2 = i + 1 + 1 from rfl, this]
            exact hE3⟩
          have hdec := strings_IndexAny.decode_e s i (by rw [Hg.out, hx195]) (strings_IndexAny.get_list s (i + 1) 169 hx1) hi3
          rw [hdec] at hnx
          have Hx1 := Aside0.mk hx1
          have hN2 : Aside0 (Lib.NoAny s.data.toList [13, 10] (i + 2)) := ⟨(HN.out.succ Hx.out (by rw [hx195]; decide)).succ Hx1.out (by decide)⟩
          clear hE hE3 ht hlen hx1 hdec
          go_wp2_with (first | (go_at_call 31; refine (strings_IndexAny.rune_e _).mono ?_; rintro e w' ⟨rfl, ⟨q, hw⟩⟩; rw [hw]))
          go_roundg g
          case measure => omega
          case rel => exact ⟨i + 2, _, by omega, by omega, by show ((w.drewN m).drewN q).iter s (i + 2) = _; rw [World.drewN_drewN], hN2, ht2⟩
      · obtain rfl : i = s.size := by omega
        have hnx := fun ty => run_next_end (P := Try.prog) (w.drewN m) s s.size ty (by omega)
        simp only [World.heap_drewN] at hnx
        go_wp2
        go_ret
        exact ⟨by rw [Lib.indexAny_none (by rw [Array.length_toList]; exact HN.out)]; rfl, by unfold World.iter; repeat (first | exact Below.refl _ _ | apply below_alloc | apply pw_below_drewN)⟩
def strings_IndexAny.f (a0 : ByteArray) (a1 : ByteArray) : Option (Int) := if a0.size < 4294967281 then (if a1.size < 4294967281 then (if (a0.data.toList.all fun b => decide (b.toNat < 128)) = true then (if (a1.data.toList.all fun b => decide (b.toNat < 128)) = true then some (Lib.indexAny a0.data.toList a1.data.toList) else none) else (if a1 = (⟨#[13, 10]⟩ : ByteArray) then (if strings_IndexAny.eAsc a0.data.toList = true then some (Lib.indexAny a0.data.toList a1.data.toList) else none) else none)) else none) else none
theorem strings_IndexAny.calls (a0 : ByteArray) (a1 : ByteArray) (r : Int) (w : World) (h : strings_IndexAny.f a0 a1 = some r) :
    Calls Try.prog 22 #[.string a0, .string a1] w fun e w' => e = .returned (.int .i64 r) ∧ Below w.heap.size w w' := by
  have key (s : ByteArray) (hs : (s.data.toList.all fun b => decide (b.toNat < 128)) = true) : ∀ (j : Nat) (b : UInt8), s.data.toList[j]? = some b → b.toNat < 128 := fun j b hj =>
    of_decide_eq_true (List.all_eq_true.1 hs b (List.mem_of_getElem? hj))
  unfold strings_IndexAny.f at h
  by_cases h0 : a0.size < 4294967281
  · rw [if_pos h0] at h
    by_cases h1 : a1.size < 4294967281
    · rw [if_pos h1] at h
      by_cases h2 : (a0.data.toList.all fun b => decide (b.toNat < 128)) = true
      · rw [if_pos h2] at h
        by_cases h3 : (a1.data.toList.all fun b => decide (b.toNat < 128)) = true
        · rw [if_pos h3] at h
          obtain rfl := Option.some.inj h
          exact Sh.strings_IndexAny_laid a0 a1 w h0 h1 (key a0 h2) (key a1 h3)
        · rw [if_neg h3] at h
          cases h
      · rw [if_neg h2] at h
        by_cases h3 : a1 = (⟨#[13, 10]⟩ : ByteArray)
        · rw [if_pos h3] at h
          by_cases h4 : strings_IndexAny.eAsc a0.data.toList = true
          · rw [if_pos h4] at h
            obtain rfl := Option.some.inj h
            subst h3
            by_cases h8 : a0.size ≤ 8
            · exact strings_IndexAny.any_e a0 h8 h4 w
            · have h116 : (Try.prog.info? (Sh.shelf153_ren.t 116)).map (fun i => (i.zero, i.size)) = some (some (.agg (Array.replicate 256 (.bool false))), 256) := by kernel_rfl
              exact (Any.strings_IndexAny_long Sh.shelf153 (zero_of_info h116).1 (zero_of_info h116).2 a0 (⟨#[13, 10]⟩ : ByteArray) w (by decide) (by omega) h0 (by decide) (key _ (by decide))).mono fun e w' ⟨he, hw⟩ => ⟨he, by rw [hw]; exact below_alloc (below_alloc (Below.refl _ _) _) _⟩
          · rw [if_neg h4] at h
            cases h
        · rw [if_neg h3] at h
          cases h
    · rw [if_neg h1] at h
      cases h
  · rw [if_neg h0] at h
    cases h

-- NOT PRINTED: function 23 (strings_Index)

/-! ### strings_Contains: function 15 (by hand) -/
def strings_Contains.f (a0 : ByteArray) (a1 : ByteArray) : Option (Bool) := if a1.size = 1 then some (decide (0 ≤ Lib.indexByte a0.data.toList (a1.data.toList.headD 0))) else none
theorem strings_Contains.calls (a0 : ByteArray) (a1 : ByteArray) (r : Bool) (w : World) (h : strings_Contains.f a0 a1 = some r) :
    Calls Try.prog 15 #[.string a0, .string a1] w fun e w' => e = .returned (.bool r) ∧ Drawn0 w w' := by
  unfold strings_Contains.f at h
  by_cases h1 : a1.size = 1
  · rw [if_pos h1] at h
    obtain rfl := Option.some.inj h
    obtain ⟨c, hc⟩ : ∃ c, a1 = (⟨#[c]⟩ : ByteArray) := by
      obtain ⟨⟨l⟩⟩ := a1
      match l, h1 with
      | [c], _ => exact ⟨c, rfl⟩
    subst hc
    exact (Sh.strings_Contains_one a0 c w).mono fun e w' ⟨he, hw⟩ => ⟨he, hw ▸ Drawn0.refl _⟩
  · rw [if_neg h1] at h
    cases h

/-! ### strings_HasPrefix: function 20 -/
def strings_HasPrefix.f (a0 : ByteArray) (a1 : ByteArray) : Option (Bool) := (stringslite_HasPrefix.f a0 a1).bind fun t110 => (some t110)
set_option maxHeartbeats 8000000 in
set_option maxRecDepth 100000 in
theorem strings_HasPrefix.calls (a0 : ByteArray) (a1 : ByteArray) (r : Bool) (w : World) (h : strings_HasPrefix.f a0 a1 = some r) :
    Calls Try.prog 20 #[.string a0, .string a1] w fun e w' => e = .returned (.bool r) ∧ Drawn0 w w' := by
  have H : ((stringslite_HasPrefix.f a0 a1).bind fun t110 => (some t110)) = some r := h
  clear h
  replace H := Option.bind_eq_some_iff.mp H
  obtain ⟨t110, A30, H⟩ := H
  replace H : (some t110) = some r := H
  have A3 := Aside0.mk A30
  clear A30
  obtain rfl := Option.some.inj H
  go_enter Try.func20, Try.ntmps20
  go_wp2_with (first | ((with_reducible refine gate_callee (f := 29) rfl ?_); refine goesL_ (some 7) rfl rfl Try.func29 (by kernel_rfl) rfl #[.string a0, .string a1] rfl (by (try simp only [List.map_toArray, List.map_cons, List.map_nil]); first | done | rfl | (simp only [List.length_drop, List.length_take]; rfl) | (simp only [ByteArray.size_extract, Nat.min_self]; done) | (simp only [ByteArray.size_extract, Nat.min_self]; rfl)) ?_; (with_reducible refine (stringslite_HasPrefix.calls a0 a1 t110 _ A3.out).mono ?_); rintro e w' ⟨rfl, ⟨nd, rfl⟩⟩; refine ⟨_, rfl, ?_⟩))
  go_ret
  exact ⟨by first | rfl | (simp; done) | (simp [*]; done), by repeat (first | exact Drawn0.refl _ | apply Drawn0.step)⟩

-- NOT PRINTED: function 38 (strings_Builder_copyCheck)

-- NOT PRINTED: function 39 (strings_Builder_grow)

-- NOT PRINTED: function 25 (strings_Builder_Grow)

/-- A builder at block g of W, that was made behind w0: its text. -/
def IsS92 (w0 W : World) (g : Nat) (f0 : ByteArray) : Prop := Bld 48 5 w0 W g f0
theorem IsS92.below {w0 W : World} {g : Nat} {f0 : ByteArray} {W1 : World} (h : IsS92 w0 W g f0) (hw : Below W.heap.size W W1) : IsS92 w0 W1 g f0 := Bld.below h hw
theorem IsS92.alloc {w0 W : World} {g : Nat} {f0 : ByteArray} (h : IsS92 w0 W g f0) (o : Obj) : IsS92 w0 (W.alloc o) g f0 := IsS92.below h (below_alloc (Below.refl _ _) o)
theorem IsS92.drewN {w0 W : World} {g : Nat} {f0 : ByteArray} (h : IsS92 w0 W g f0) (m : Nat) : IsS92 w0 (W.drewN m) g f0 := Bld.drewN h m
theorem IsS92.drew {w0 W : World} {g : Nat} {f0 : ByteArray} (h : IsS92 w0 W g f0) : IsS92 w0 W.drew g f0 := Bld.drew h
theorem IsS92.at_ {w0 W : World} {g : Nat} {f0 : ByteArray} {w' : World} {m : Nat} (hq : W.drewN m = w') (h : IsS92 w0 W g f0) : IsS92 w0 w' g f0 := by subst hq; exact IsS92.drewN h m
theorem IsS92.grown {w0 W : World} {g : Nat} {f0 : ByteArray} {W1 : World} {row : Option Nat} (h : IsS92 w0 W g f0) (hw : W.grownBy W1 row) (hne : BldOff 48 5 W row) : IsS92 w0 W1 g f0 := Bld.grown h hw hne
theorem IsS92.apart {w0 W : World} {g : Nat} {f0 : ByteArray} {α : Type} {d : Kd α} {e : Nat} {base : Nat} {ok : Nat → Prop} {v : Value} {xs : List α} (h : IsS92 w0 W g f0) (ho : d.R e W base ok v xs) (ht : ∀ q, q ∈ e :: d.E → q ≠ 48) : d.R e W base (fun k => ok k ∧ k ≠ g) v xs := by obtain ⟨cs, hb⟩ := Bld.blk h; exact Kd.R_types ho hb ht
theorem IsS92.own_ne {w0 W : World} {g : Nat} {f0 : ByteArray} {α : Type} {d : Kd α} {e : Nat} {base : Nat} {ok : Nat → Prop} {v : Value} {xs : List α} (h : IsS92 w0 W g f0) (ho : d.R e W base ok v xs) (ht : e ≠ 48 ∧ e ≠ 5) : BldOff 48 5 W v.ownBlock := Bld.off ho ht
theorem IsS92.lt {w0 W : World} {g : Nat} {f0 : ByteArray} (h : IsS92 w0 W g f0) : g < W.heap.size := Bld.lt h
theorem IsS92.ge {w0 W : World} {g : Nat} {f0 : ByteArray} (h : IsS92 w0 W g f0) : w0.heap.size ≤ g := Bld.ge h
theorem IsS92.fresh {w0 W : World} {g : Nat} {f0 : ByteArray} (h : IsS92 w0 W g f0) : ∀ k, W.heap.size ≤ k → k ≠ g := fun k hk e1 => by have := Bld.lt h; omega
/-! ### strings_Builder_WriteString: function 26 (by hand) -/
def strings_Builder_WriteString.f (s0_0 : ByteArray) (a1 : ByteArray) : Option (Int × Option Int × ByteArray) := if s0_0.size + a1.size ≤ 140737488355328 then some ((a1.size : Int), none, s0_0 ++ a1) else none
theorem strings_Builder_WriteString.calls (g : Nat) (s0_0 : ByteArray) (a1 : ByteArray) (r1 : Int) (r2 : Option Int) (r3 : ByteArray) (w0 w : World) (hI : IsS92 w0 w g s0_0) (hB : Below w0.heap.size w0 w) (h : strings_Builder_WriteString.f s0_0 a1 = some (r1, r2, r3)) :
    Calls Try.prog 26 #[.pointer (some ⟨g, 0, none⟩), .string a1] w fun e w' => e = .returned (.tuple #[.int .i64 r1, errW r2]) ∧ IsS92 w0 w' g r3 ∧ Below w0.heap.size w0 w' ∧ KeepE 5 w w' g := by
  unfold strings_Builder_WriteString.f at h
  by_cases h1 : s0_0.size + a1.size ≤ 140737488355328
  · rw [if_pos h1] at h
    simp only [Option.some.injEq, Prod.mk.injEq] at h
    obtain ⟨rfl, rfl, rfl⟩ := h
    have hc : Lib.strCells (s0_0 ++ a1) = Lib.strCells s0_0 ++ Lib.strCells a1 := by
      unfold Lib.strCells
      rw [ByteArray.data_append, Array.toList_append, List.map_append]
    refine (Sh.writeString w0.heap.size g (Lib.strCells s0_0) a1 w hI.2 (by rw [Lib.strCells_length]; exact h1) hI.1).mono ?_
    rintro e w1 ⟨rfl, h4, h5, h6⟩
    exact ⟨rfl, ⟨Nat.le_trans hI.1 h5.size, .inr (by rw [hc]; exact h4)⟩, hB.trans h5, h5.size, h6⟩
  · rw [if_neg h1] at h; cases h

-- NOT PRINTED: function 27 (strings_Builder_Len)

/-! ### strings_Builder_String: function 28 (by hand) -/
def strings_Builder_String.f (s0_0 : ByteArray) : Option (ByteArray × ByteArray) := some (s0_0, s0_0)
theorem strings_Builder_String.calls (g : Nat) (s0_0 : ByteArray) (r1 : ByteArray) (r2 : ByteArray) (w0 w : World) (hI : IsS92 w0 w g s0_0) (hB : Below w0.heap.size w0 w) (h : strings_Builder_String.f s0_0 = some (r1, r2)) :
    Calls Try.prog 28 #[.pointer (some ⟨g, 0, none⟩)] w fun e w' => e = .returned (.string r1) ∧ IsS92 w0 w' g r2 ∧ Below w0.heap.size w0 w' ∧ KeepE 5 w w' g := by
  unfold strings_Builder_String.f at h
  simp only [Option.some.injEq, Prod.mk.injEq] at h
  obtain ⟨rfl, rfl⟩ := h
  have hI2 := hI.2
  rw [Lib.strCells_eq] at hI2
  refine (Sh.string w0.heap.size g s0_0.data.toList w hI2 hI.1).mono ?_
  rintro e w1 ⟨rfl, h4, h5, h6⟩
  exact ⟨rfl, ⟨Nat.le_trans hI.1 h5.size, by rw [Lib.strCells_eq]; exact h4⟩, hB.trans h5, h5.size, h6⟩

/-! ### strings_Repeat: function 16 (by hand) -/
def strings_Repeat.f (a0 : ByteArray) (a1 : Int) : Option (ByteArray) := if 0 ≤ a1 then (if a1 ≤ 9223372036854775807 then (if a0.size * a1.toNat ≤ 140737488355328 then some (⟨(Lib.repeatL a0.data.toList a1.toNat).toArray⟩ : ByteArray) else none) else none) else none
theorem strings_Repeat.calls (a0 : ByteArray) (a1 : Int) (r : ByteArray) (w : World) (h : strings_Repeat.f a0 a1 = some r) :
    Calls Try.prog 16 #[.string a0, .int .i64 a1] w fun e w' => e = .returned (.string r) ∧ Below w.heap.size w w' := by
  unfold strings_Repeat.f at h
  by_cases h0 : 0 ≤ a1
  · rw [if_pos h0] at h
    by_cases h1 : a1 ≤ 9223372036854775807
    · rw [if_pos h1] at h
      by_cases h2 : a0.size * a1.toNat ≤ 140737488355328
      · rw [if_pos h2] at h
        obtain rfl := Option.some.inj h
        obtain ⟨n, rfl⟩ : ∃ n : Nat, a1 = (n : Int) := ⟨a1.toNat, by omega⟩
        exact Sh.strings_Repeat a0 n w (by omega) h2
      · rw [if_neg h2] at h
        cases h
    · rw [if_neg h1] at h
      cases h
  · rw [if_neg h0] at h
    cases h

/-! ### strings_Join: function 19 (by hand) -/
def strings_Join.f (l0 : List ByteArray) (a1 : ByteArray) : Option (ByteArray) := if (Lib.join (l0.map (·.data.toList)) a1.data.toList).length ≤ 140737488355328 then (if l0.length ≤ 140737488355328 then some (⟨(Lib.join (l0.map (·.data.toList)) a1.data.toList).toArray⟩ : ByteArray) else none) else none
theorem strings_Join.calls (A0 : Option Addr) (c0 : Nat) (l0 : List ByteArray) (a1 : ByteArray) (r : ByteArray) (w : World) (hr0 : Kd.C Kd.string w A0 l0.length l0) (hc0 : l0.length ≤ c0) (h : strings_Join.f l0 a1 = some r) :
    Calls Try.prog 19 #[.slice A0 l0.length c0, .string a1] w fun e w' => e = .returned (.string r) ∧ Below w.heap.size w w' := by
  unfold strings_Join.f at h
  by_cases h1 : (Lib.join (l0.map (·.data.toList)) a1.data.toList).length ≤ 140737488355328
  · rw [if_pos h1] at h
    by_cases h2 : l0.length ≤ 140737488355328
    · rw [if_pos h2] at h
      obtain rfl := Option.some.inj h
      cases l0 with
      | nil => exact (Sh.strings_Join_none A0 c0 a1 w).mono fun e w' ⟨he, hw⟩ => ⟨he, hw ▸ Below.refl _ _⟩
      | cons x t =>
        obtain ⟨ad, rfl, hcell⟩ := hr0.2.2 (Nat.succ_pos _)
        have cell : ∀ (j : Nat) y, (x :: t)[j]? = some y → w.cell? (ad.add j) = some (.string y) := fun j y hj => by
          obtain ⟨c, _, hc, hu⟩ := hcell j y hj
          have hc2 : c = [.string y] := hc
          subst hc2
          have h0 := hu 0 _ rfl
          rwa [show j * Kd.string.sz + 0 = j from Nat.mul_one j] at h0
        obtain ⟨bk, o, sp⟩ := ad
        have h00 := cell 0 x rfl
        have hsp : sp = none ∧ bk < w.heap.size := by
          unfold World.cell? at h00
          cases hb : w.heap[bk]? with
          | none => rw [show ((⟨bk, o, sp⟩ : Addr).add 0).block = bk from rfl, hb] at h00; cases h00
          | some ob =>
            refine ⟨?_, (Array.getElem?_eq_some_iff.1 hb).1⟩
            rw [show ((⟨bk, o, sp⟩ : Addr).add 0).block = bk from rfl, hb] at h00
            cases ob <;> simp [Addr.add] at h00
            exact h00.1
        obtain ⟨rfl, hbk⟩ := hsp
        exact Sh.strings_Join bk o c0 (x :: t) a1 w (fun j y hj => by
          have h0 := cell j y hj
          unfold Addr.add at h0
          by_cases hj0 : j = 0
          · subst hj0; exact h0
          · rwa [if_neg hj0] at h0) hbk h2 hc0 h1
    · rw [if_neg h2] at h
      cases h
  · rw [if_neg h1] at h
    cases h

end Go.Proofs.Ytpinegfbcbfnoaa.Q
