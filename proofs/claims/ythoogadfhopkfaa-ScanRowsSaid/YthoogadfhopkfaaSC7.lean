/- The scanner's functions that lay its tokens. -/
import Derived.Test.YthoogadfhopkfaaSM2
namespace Go.Proofs.Ythoogadfhopkfaa.Sc
open Go.RowKit Go.Proofs.Ythoogadfhopkfaa.Q Go.Proofs.YthoogadfhopkfaaW.PrintWords Go.Proofs.YthoogadfhopkfaaW.PrintLast Go.Proofs.YthoogadfhopkfaaW.PrintMore
attribute [local go_sem] max2_int min2_int max_two min_two max_three min_three max_four min_four
set_option linter.unusedVariables false
set_option linter.unusedSimpArgs false
set_option maxHeartbeats 1000000
set_option maxRecDepth 100000


theorem token_calls (w0 W : World) (g : Nat) (A0 : Option Addr) (c0 : Nat) (b : List Int) (at_ : Int) (V : Value) (l : List S32) (op row base : Int) (dash : Bool) (hs : SR w0 W g A0 c0 b at_ V l op row base dash) (kind e1 : Int) (hn : (l.length : Int) ≤ 16384) (h0 : 0 ≤ at_) (h1 : at_ ≤ 16384) (r0 : 0 ≤ row) (r1 : row ≤ at_) :
    Calls Try.prog 31 #[.pointer (some ⟨g, 0, none⟩), .int .i64 kind, .int .i64 e1] W fun e w' => e = .returned (.tuple #[]) ∧ ∃ V', SR w0 w' g A0 c0 b e1 V' (l ++ [⟨kind, at_, e1⟩]) op (tkRow kind e1 row) (tkBase kind at_ row base) (tkDash kind dash) := by
  have H := Aside0.mk hs
  have hc0 := hs.q.cell0
  have hc1 := hs.q.cell1
  have hc2 := hs.q.cell2
  have hc3 := hs.q.cell3
  have hc4 := hs.q.cell4
  have hc5 := hs.q.cell5
  have hc6 := hs.q.cell6
  have hl := hs.q.len
  clear hs
  rcases (by omega : kind = 1 ∨ kind = 19 ∨ kind = 2 ∨ kind = 3 ∨ kind = 4 ∨ (kind ≠ 1 ∧ kind ≠ 19 ∧ kind ≠ 2 ∧ kind ≠ 3 ∧ kind ≠ 4)) with c | c | c | c | c | c
  · have k1 : (kind == 1) = true := by subst c; rfl
    have hR : tkRow kind e1 row = e1 := by simp [tkRow, isNew, *]
    have hB : tkBase kind at_ row base = -1 := by simp [tkBase, isNew, isLoose, *]
    have hD : tkDash kind dash = true := by simp [tkDash, isNew, isLoose, *]
    rw [hR, hB, hD]
    clear hR hB hD c
    try clear c6
    try clear o
    go_enter Try.func31, Try.ntmps31
    go_wp2_with (first | ((with_reducible refine gate_builtin (b := .append) (xs := #[.tmp 15, .tmp 20]) rfl ?_); at_builtin; refine Kd.R_append k32 (w0 := w0) w0.heap.size rfl (.tmp 15) (.tmp 20) 27 32 (.agg #[(.int .i64 0), (.int .i64 0), (.int .i64 0)]) 24 rfl Try.underlying27 info32 rfl (by decide) (by omega) V l (⟨kind, at_, e1⟩ : S32) [.int .i64 kind, .int .i64 at_, .int .i64 e1] (fun _ => True) (fun _ => False) rfl rfl (k32_mkM _ _ _ _) (fun _ hk => hk.elim) (fun _ _ => trivial) H.out.r H.out.B H.out.B.size (by omega) ?_; intro v1 w1 hr1 hb1 hg1 hat1; obtain ⟨Ao, co, eo⟩ := Kd.R_slice hr1; rw [show (l ++ [(⟨kind, at_, e1⟩ : S32)]).length = l.length + 1 by simp] at eo; subst eo; have H1 := Aside0.mk (H.out.laid hr1 hb1 hg1); have hk1 := H.out.blk1 hg1; have gc1 := blk_cell hk1 1; have gc2 := blk_cell hk1 2; have gc3 := blk_cell hk1 3; have gc4 := blk_cell hk1 4; have gc5 := blk_cell hk1 5; have gc6 := blk_cell hk1 6; have gf1 := blk_frozen hk1 1; have gf2 := blk_frozen hk1 2; have gf3 := blk_frozen hk1 3; have gf4 := blk_frozen hk1 4; have gf5 := blk_frozen hk1 5; have gf6 := blk_frozen hk1 6; clear hr1 hb1 hg1 hat1 hk1) | (go_at_call 18; (with_reducible refine (begin_calls w0 _ g A0 c0 b e1 (.slice Ao (l.length + 1) co) (l ++ [⟨kind, at_, e1⟩]) op row base dash (by repeat (first | exact H1.out | (with_reducible first | apply SR.set1 | apply SR.set3 | apply SR.set4 | apply SR.set5 | apply SR.set6)))).mono ?_); rintro e w2 ⟨rfl, h2⟩; have H2 := Aside0.mk h2; clear h2))
    first | go_end0 | ((try simp only [Exit.inBlock, Exit.then]); refine bodyPost_ret (results_none rfl _ _ _) rfl ?_)
    exact ⟨rfl, _, by repeat (first | exact H2.out | exact H1.out | (with_reducible first | apply SR.set1 | apply SR.set3 | apply SR.set4 | apply SR.set5 | apply SR.set6))⟩
  · have k19 : (kind == 19) = true := by subst c; rfl
    have k1 : (kind == 1) = false := by first | (subst c; rfl) | exact beq_eq_false_iff_ne.mpr (by omega)
    have hR : tkRow kind e1 row = e1 := by simp [tkRow, isNew, *]
    have hB : tkBase kind at_ row base = -1 := by simp [tkBase, isNew, isLoose, *]
    have hD : tkDash kind dash = true := by simp [tkDash, isNew, isLoose, *]
    rw [hR, hB, hD]
    clear hR hB hD c
    try clear c6
    try clear o
    go_enter Try.func31, Try.ntmps31
    go_wp2_with (first | ((with_reducible refine gate_builtin (b := .append) (xs := #[.tmp 15, .tmp 20]) rfl ?_); at_builtin; refine Kd.R_append k32 (w0 := w0) w0.heap.size rfl (.tmp 15) (.tmp 20) 27 32 (.agg #[(.int .i64 0), (.int .i64 0), (.int .i64 0)]) 24 rfl Try.underlying27 info32 rfl (by decide) (by omega) V l (⟨kind, at_, e1⟩ : S32) [.int .i64 kind, .int .i64 at_, .int .i64 e1] (fun _ => True) (fun _ => False) rfl rfl (k32_mkM _ _ _ _) (fun _ hk => hk.elim) (fun _ _ => trivial) H.out.r H.out.B H.out.B.size (by omega) ?_; intro v1 w1 hr1 hb1 hg1 hat1; obtain ⟨Ao, co, eo⟩ := Kd.R_slice hr1; rw [show (l ++ [(⟨kind, at_, e1⟩ : S32)]).length = l.length + 1 by simp] at eo; subst eo; have H1 := Aside0.mk (H.out.laid hr1 hb1 hg1); have hk1 := H.out.blk1 hg1; have gc1 := blk_cell hk1 1; have gc2 := blk_cell hk1 2; have gc3 := blk_cell hk1 3; have gc4 := blk_cell hk1 4; have gc5 := blk_cell hk1 5; have gc6 := blk_cell hk1 6; have gf1 := blk_frozen hk1 1; have gf2 := blk_frozen hk1 2; have gf3 := blk_frozen hk1 3; have gf4 := blk_frozen hk1 4; have gf5 := blk_frozen hk1 5; have gf6 := blk_frozen hk1 6; clear hr1 hb1 hg1 hat1 hk1) | (go_at_call 18; (with_reducible refine (begin_calls w0 _ g A0 c0 b e1 (.slice Ao (l.length + 1) co) (l ++ [⟨kind, at_, e1⟩]) op row base dash (by repeat (first | exact H1.out | (with_reducible first | apply SR.set1 | apply SR.set3 | apply SR.set4 | apply SR.set5 | apply SR.set6)))).mono ?_); rintro e w2 ⟨rfl, h2⟩; have H2 := Aside0.mk h2; clear h2))
    first | go_end0 | ((try simp only [Exit.inBlock, Exit.then]); refine bodyPost_ret (results_none rfl _ _ _) rfl ?_)
    exact ⟨rfl, _, by repeat (first | exact H2.out | exact H1.out | (with_reducible first | apply SR.set1 | apply SR.set3 | apply SR.set4 | apply SR.set5 | apply SR.set6))⟩
  · have k2 : (kind == 2) = true := by subst c; rfl
    have k1 : (kind == 1) = false := by first | (subst c; rfl) | exact beq_eq_false_iff_ne.mpr (by omega)
    have k19 : (kind == 19) = false := by first | (subst c; rfl) | exact beq_eq_false_iff_ne.mpr (by omega)
    have hR : tkRow kind e1 row = row := by simp [tkRow, isNew, *]
    have hB : tkBase kind at_ row base = base := by simp [tkBase, isNew, isLoose, *]
    have hD : tkDash kind dash = dash := by simp [tkDash, isNew, isLoose, *]
    rw [hR, hB, hD]
    clear hR hB hD c
    try clear c6
    try clear o
    go_enter Try.func31, Try.ntmps31
    go_wp2_with (first | ((with_reducible refine gate_builtin (b := .append) (xs := #[.tmp 15, .tmp 20]) rfl ?_); at_builtin; refine Kd.R_append k32 (w0 := w0) w0.heap.size rfl (.tmp 15) (.tmp 20) 27 32 (.agg #[(.int .i64 0), (.int .i64 0), (.int .i64 0)]) 24 rfl Try.underlying27 info32 rfl (by decide) (by omega) V l (⟨kind, at_, e1⟩ : S32) [.int .i64 kind, .int .i64 at_, .int .i64 e1] (fun _ => True) (fun _ => False) rfl rfl (k32_mkM _ _ _ _) (fun _ hk => hk.elim) (fun _ _ => trivial) H.out.r H.out.B H.out.B.size (by omega) ?_; intro v1 w1 hr1 hb1 hg1 hat1; obtain ⟨Ao, co, eo⟩ := Kd.R_slice hr1; rw [show (l ++ [(⟨kind, at_, e1⟩ : S32)]).length = l.length + 1 by simp] at eo; subst eo; have H1 := Aside0.mk (H.out.laid hr1 hb1 hg1); have hk1 := H.out.blk1 hg1; have gc1 := blk_cell hk1 1; have gc2 := blk_cell hk1 2; have gc3 := blk_cell hk1 3; have gc4 := blk_cell hk1 4; have gc5 := blk_cell hk1 5; have gc6 := blk_cell hk1 6; have gf1 := blk_frozen hk1 1; have gf2 := blk_frozen hk1 2; have gf3 := blk_frozen hk1 3; have gf4 := blk_frozen hk1 4; have gf5 := blk_frozen hk1 5; have gf6 := blk_frozen hk1 6; clear hr1 hb1 hg1 hat1 hk1) | (go_at_call 18; (with_reducible refine (begin_calls w0 _ g A0 c0 b e1 (.slice Ao (l.length + 1) co) (l ++ [⟨kind, at_, e1⟩]) op row base dash (by repeat (first | exact H1.out | (with_reducible first | apply SR.set1 | apply SR.set3 | apply SR.set4 | apply SR.set5 | apply SR.set6)))).mono ?_); rintro e w2 ⟨rfl, h2⟩; have H2 := Aside0.mk h2; clear h2))
    first | go_end0 | ((try simp only [Exit.inBlock, Exit.then]); refine bodyPost_ret (results_none rfl _ _ _) rfl ?_)
    exact ⟨rfl, _, by repeat (first | exact H2.out | exact H1.out | (with_reducible first | apply SR.set1 | apply SR.set3 | apply SR.set4 | apply SR.set5 | apply SR.set6))⟩
  · have k3 : (kind == 3) = true := by subst c; rfl
    have k1 : (kind == 1) = false := by first | (subst c; rfl) | exact beq_eq_false_iff_ne.mpr (by omega)
    have k19 : (kind == 19) = false := by first | (subst c; rfl) | exact beq_eq_false_iff_ne.mpr (by omega)
    have k2 : (kind == 2) = false := by first | (subst c; rfl) | exact beq_eq_false_iff_ne.mpr (by omega)
    have hR : tkRow kind e1 row = row := by simp [tkRow, isNew, *]
    have hB : tkBase kind at_ row base = base := by simp [tkBase, isNew, isLoose, *]
    have hD : tkDash kind dash = dash := by simp [tkDash, isNew, isLoose, *]
    rw [hR, hB, hD]
    clear hR hB hD c
    try clear c6
    try clear o
    go_enter Try.func31, Try.ntmps31
    go_wp2_with (first | ((with_reducible refine gate_builtin (b := .append) (xs := #[.tmp 15, .tmp 20]) rfl ?_); at_builtin; refine Kd.R_append k32 (w0 := w0) w0.heap.size rfl (.tmp 15) (.tmp 20) 27 32 (.agg #[(.int .i64 0), (.int .i64 0), (.int .i64 0)]) 24 rfl Try.underlying27 info32 rfl (by decide) (by omega) V l (⟨kind, at_, e1⟩ : S32) [.int .i64 kind, .int .i64 at_, .int .i64 e1] (fun _ => True) (fun _ => False) rfl rfl (k32_mkM _ _ _ _) (fun _ hk => hk.elim) (fun _ _ => trivial) H.out.r H.out.B H.out.B.size (by omega) ?_; intro v1 w1 hr1 hb1 hg1 hat1; obtain ⟨Ao, co, eo⟩ := Kd.R_slice hr1; rw [show (l ++ [(⟨kind, at_, e1⟩ : S32)]).length = l.length + 1 by simp] at eo; subst eo; have H1 := Aside0.mk (H.out.laid hr1 hb1 hg1); have hk1 := H.out.blk1 hg1; have gc1 := blk_cell hk1 1; have gc2 := blk_cell hk1 2; have gc3 := blk_cell hk1 3; have gc4 := blk_cell hk1 4; have gc5 := blk_cell hk1 5; have gc6 := blk_cell hk1 6; have gf1 := blk_frozen hk1 1; have gf2 := blk_frozen hk1 2; have gf3 := blk_frozen hk1 3; have gf4 := blk_frozen hk1 4; have gf5 := blk_frozen hk1 5; have gf6 := blk_frozen hk1 6; clear hr1 hb1 hg1 hat1 hk1) | (go_at_call 18; (with_reducible refine (begin_calls w0 _ g A0 c0 b e1 (.slice Ao (l.length + 1) co) (l ++ [⟨kind, at_, e1⟩]) op row base dash (by repeat (first | exact H1.out | (with_reducible first | apply SR.set1 | apply SR.set3 | apply SR.set4 | apply SR.set5 | apply SR.set6)))).mono ?_); rintro e w2 ⟨rfl, h2⟩; have H2 := Aside0.mk h2; clear h2))
    first | go_end0 | ((try simp only [Exit.inBlock, Exit.then]); refine bodyPost_ret (results_none rfl _ _ _) rfl ?_)
    exact ⟨rfl, _, by repeat (first | exact H2.out | exact H1.out | (with_reducible first | apply SR.set1 | apply SR.set3 | apply SR.set4 | apply SR.set5 | apply SR.set6))⟩
  · have k4 : (kind == 4) = true := by subst c; rfl
    have k1 : (kind == 1) = false := by first | (subst c; rfl) | exact beq_eq_false_iff_ne.mpr (by omega)
    have k19 : (kind == 19) = false := by first | (subst c; rfl) | exact beq_eq_false_iff_ne.mpr (by omega)
    have k2 : (kind == 2) = false := by first | (subst c; rfl) | exact beq_eq_false_iff_ne.mpr (by omega)
    have k3 : (kind == 3) = false := by first | (subst c; rfl) | exact beq_eq_false_iff_ne.mpr (by omega)
    have hR : tkRow kind e1 row = row := by simp [tkRow, isNew, *]
    have hB : tkBase kind at_ row base = base := by simp [tkBase, isNew, isLoose, *]
    have hD : tkDash kind dash = dash := by simp [tkDash, isNew, isLoose, *]
    rw [hR, hB, hD]
    clear hR hB hD c
    try clear c6
    try clear o
    go_enter Try.func31, Try.ntmps31
    go_wp2_with (first | ((with_reducible refine gate_builtin (b := .append) (xs := #[.tmp 15, .tmp 20]) rfl ?_); at_builtin; refine Kd.R_append k32 (w0 := w0) w0.heap.size rfl (.tmp 15) (.tmp 20) 27 32 (.agg #[(.int .i64 0), (.int .i64 0), (.int .i64 0)]) 24 rfl Try.underlying27 info32 rfl (by decide) (by omega) V l (⟨kind, at_, e1⟩ : S32) [.int .i64 kind, .int .i64 at_, .int .i64 e1] (fun _ => True) (fun _ => False) rfl rfl (k32_mkM _ _ _ _) (fun _ hk => hk.elim) (fun _ _ => trivial) H.out.r H.out.B H.out.B.size (by omega) ?_; intro v1 w1 hr1 hb1 hg1 hat1; obtain ⟨Ao, co, eo⟩ := Kd.R_slice hr1; rw [show (l ++ [(⟨kind, at_, e1⟩ : S32)]).length = l.length + 1 by simp] at eo; subst eo; have H1 := Aside0.mk (H.out.laid hr1 hb1 hg1); have hk1 := H.out.blk1 hg1; have gc1 := blk_cell hk1 1; have gc2 := blk_cell hk1 2; have gc3 := blk_cell hk1 3; have gc4 := blk_cell hk1 4; have gc5 := blk_cell hk1 5; have gc6 := blk_cell hk1 6; have gf1 := blk_frozen hk1 1; have gf2 := blk_frozen hk1 2; have gf3 := blk_frozen hk1 3; have gf4 := blk_frozen hk1 4; have gf5 := blk_frozen hk1 5; have gf6 := blk_frozen hk1 6; clear hr1 hb1 hg1 hat1 hk1) | (go_at_call 18; (with_reducible refine (begin_calls w0 _ g A0 c0 b e1 (.slice Ao (l.length + 1) co) (l ++ [⟨kind, at_, e1⟩]) op row base dash (by repeat (first | exact H1.out | (with_reducible first | apply SR.set1 | apply SR.set3 | apply SR.set4 | apply SR.set5 | apply SR.set6)))).mono ?_); rintro e w2 ⟨rfl, h2⟩; have H2 := Aside0.mk h2; clear h2))
    first | go_end0 | ((try simp only [Exit.inBlock, Exit.then]); refine bodyPost_ret (results_none rfl _ _ _) rfl ?_)
    exact ⟨rfl, _, by repeat (first | exact H2.out | exact H1.out | (with_reducible first | apply SR.set1 | apply SR.set3 | apply SR.set4 | apply SR.set5 | apply SR.set6))⟩
  · by_cases o : base < 0
    · rcases (by cases dash <;> simp : dash = true ∨ dash = false) with hd | hd
      · rcases (by omega : kind = 5 ∨ kind = 20 ∨ (kind ≠ 5 ∧ kind ≠ 20)) with c6 | c6 | c6
        · have k1 : (kind == 1) = false := by first | (subst c; rfl) | exact beq_eq_false_iff_ne.mpr (by omega)
          have k19 : (kind == 19) = false := by first | (subst c; rfl) | exact beq_eq_false_iff_ne.mpr (by omega)
          have k2 : (kind == 2) = false := by first | (subst c; rfl) | exact beq_eq_false_iff_ne.mpr (by omega)
          have k3 : (kind == 3) = false := by first | (subst c; rfl) | exact beq_eq_false_iff_ne.mpr (by omega)
          have k4 : (kind == 4) = false := by first | (subst c; rfl) | exact beq_eq_false_iff_ne.mpr (by omega)
          have o2 : decide (base < 0) = true := decide_eq_true o
          have k5 : (kind == 5) = true := by rw [c6]; rfl
          have k20 : (kind == 20) = false := beq_eq_false_iff_ne.mpr (by omega)
          have hR : tkRow kind e1 row = row := by simp [tkRow, isNew, *]
          have hB : tkBase kind at_ row base = at_ - row := by simp [tkBase, isNew, isLoose, *]
          have hD : tkDash kind dash = true := by simp [tkDash, isNew, isLoose, *]
          rw [hR, hB, hD]
          clear hR hB hD c
          try clear c6
          try clear o
          go_enter Try.func31, Try.ntmps31
          go_wp2_with (first | ((with_reducible refine gate_builtin (b := .append) (xs := #[.tmp 15, .tmp 20]) rfl ?_); at_builtin; refine Kd.R_append k32 (w0 := w0) w0.heap.size rfl (.tmp 15) (.tmp 20) 27 32 (.agg #[(.int .i64 0), (.int .i64 0), (.int .i64 0)]) 24 rfl Try.underlying27 info32 rfl (by decide) (by omega) V l (⟨kind, at_, e1⟩ : S32) [.int .i64 kind, .int .i64 at_, .int .i64 e1] (fun _ => True) (fun _ => False) rfl rfl (k32_mkM _ _ _ _) (fun _ hk => hk.elim) (fun _ _ => trivial) H.out.r H.out.B H.out.B.size (by omega) ?_; intro v1 w1 hr1 hb1 hg1 hat1; obtain ⟨Ao, co, eo⟩ := Kd.R_slice hr1; rw [show (l ++ [(⟨kind, at_, e1⟩ : S32)]).length = l.length + 1 by simp] at eo; subst eo; have H1 := Aside0.mk (H.out.laid hr1 hb1 hg1); have hk1 := H.out.blk1 hg1; have gc1 := blk_cell hk1 1; have gc2 := blk_cell hk1 2; have gc3 := blk_cell hk1 3; have gc4 := blk_cell hk1 4; have gc5 := blk_cell hk1 5; have gc6 := blk_cell hk1 6; have gf1 := blk_frozen hk1 1; have gf2 := blk_frozen hk1 2; have gf3 := blk_frozen hk1 3; have gf4 := blk_frozen hk1 4; have gf5 := blk_frozen hk1 5; have gf6 := blk_frozen hk1 6; clear hr1 hb1 hg1 hat1 hk1) | (go_at_call 18; (with_reducible refine (begin_calls w0 _ g A0 c0 b e1 (.slice Ao (l.length + 1) co) (l ++ [⟨kind, at_, e1⟩]) op row base dash (by repeat (first | exact H1.out | (with_reducible first | apply SR.set1 | apply SR.set3 | apply SR.set4 | apply SR.set5 | apply SR.set6)))).mono ?_); rintro e w2 ⟨rfl, h2⟩; have H2 := Aside0.mk h2; clear h2))
          first | go_end0 | ((try simp only [Exit.inBlock, Exit.then]); refine bodyPost_ret (results_none rfl _ _ _) rfl ?_)
          exact ⟨rfl, _, by repeat (first | exact H2.out | exact H1.out | (with_reducible first | apply SR.set1 | apply SR.set3 | apply SR.set4 | apply SR.set5 | apply SR.set6))⟩
        · have k1 : (kind == 1) = false := by first | (subst c; rfl) | exact beq_eq_false_iff_ne.mpr (by omega)
          have k19 : (kind == 19) = false := by first | (subst c; rfl) | exact beq_eq_false_iff_ne.mpr (by omega)
          have k2 : (kind == 2) = false := by first | (subst c; rfl) | exact beq_eq_false_iff_ne.mpr (by omega)
          have k3 : (kind == 3) = false := by first | (subst c; rfl) | exact beq_eq_false_iff_ne.mpr (by omega)
          have k4 : (kind == 4) = false := by first | (subst c; rfl) | exact beq_eq_false_iff_ne.mpr (by omega)
          have o2 : decide (base < 0) = true := decide_eq_true o
          have k5 : (kind == 5) = false := beq_eq_false_iff_ne.mpr (by omega)
          have k20 : (kind == 20) = true := by rw [c6]; rfl
          have hR : tkRow kind e1 row = row := by simp [tkRow, isNew, *]
          have hB : tkBase kind at_ row base = at_ - row := by simp [tkBase, isNew, isLoose, *]
          have hD : tkDash kind dash = true := by simp [tkDash, isNew, isLoose, *]
          rw [hR, hB, hD]
          clear hR hB hD c
          try clear c6
          try clear o
          go_enter Try.func31, Try.ntmps31
          go_wp2_with (first | ((with_reducible refine gate_builtin (b := .append) (xs := #[.tmp 15, .tmp 20]) rfl ?_); at_builtin; refine Kd.R_append k32 (w0 := w0) w0.heap.size rfl (.tmp 15) (.tmp 20) 27 32 (.agg #[(.int .i64 0), (.int .i64 0), (.int .i64 0)]) 24 rfl Try.underlying27 info32 rfl (by decide) (by omega) V l (⟨kind, at_, e1⟩ : S32) [.int .i64 kind, .int .i64 at_, .int .i64 e1] (fun _ => True) (fun _ => False) rfl rfl (k32_mkM _ _ _ _) (fun _ hk => hk.elim) (fun _ _ => trivial) H.out.r H.out.B H.out.B.size (by omega) ?_; intro v1 w1 hr1 hb1 hg1 hat1; obtain ⟨Ao, co, eo⟩ := Kd.R_slice hr1; rw [show (l ++ [(⟨kind, at_, e1⟩ : S32)]).length = l.length + 1 by simp] at eo; subst eo; have H1 := Aside0.mk (H.out.laid hr1 hb1 hg1); have hk1 := H.out.blk1 hg1; have gc1 := blk_cell hk1 1; have gc2 := blk_cell hk1 2; have gc3 := blk_cell hk1 3; have gc4 := blk_cell hk1 4; have gc5 := blk_cell hk1 5; have gc6 := blk_cell hk1 6; have gf1 := blk_frozen hk1 1; have gf2 := blk_frozen hk1 2; have gf3 := blk_frozen hk1 3; have gf4 := blk_frozen hk1 4; have gf5 := blk_frozen hk1 5; have gf6 := blk_frozen hk1 6; clear hr1 hb1 hg1 hat1 hk1) | (go_at_call 18; (with_reducible refine (begin_calls w0 _ g A0 c0 b e1 (.slice Ao (l.length + 1) co) (l ++ [⟨kind, at_, e1⟩]) op row base dash (by repeat (first | exact H1.out | (with_reducible first | apply SR.set1 | apply SR.set3 | apply SR.set4 | apply SR.set5 | apply SR.set6)))).mono ?_); rintro e w2 ⟨rfl, h2⟩; have H2 := Aside0.mk h2; clear h2))
          first | go_end0 | ((try simp only [Exit.inBlock, Exit.then]); refine bodyPost_ret (results_none rfl _ _ _) rfl ?_)
          exact ⟨rfl, _, by repeat (first | exact H2.out | exact H1.out | (with_reducible first | apply SR.set1 | apply SR.set3 | apply SR.set4 | apply SR.set5 | apply SR.set6))⟩
        · have k1 : (kind == 1) = false := by first | (subst c; rfl) | exact beq_eq_false_iff_ne.mpr (by omega)
          have k19 : (kind == 19) = false := by first | (subst c; rfl) | exact beq_eq_false_iff_ne.mpr (by omega)
          have k2 : (kind == 2) = false := by first | (subst c; rfl) | exact beq_eq_false_iff_ne.mpr (by omega)
          have k3 : (kind == 3) = false := by first | (subst c; rfl) | exact beq_eq_false_iff_ne.mpr (by omega)
          have k4 : (kind == 4) = false := by first | (subst c; rfl) | exact beq_eq_false_iff_ne.mpr (by omega)
          have o2 : decide (base < 0) = true := decide_eq_true o
          have k5 : (kind == 5) = false := beq_eq_false_iff_ne.mpr (by omega)
          have k20 : (kind == 20) = false := beq_eq_false_iff_ne.mpr (by omega)
          have hR : tkRow kind e1 row = row := by simp [tkRow, isNew, *]
          have hB : tkBase kind at_ row base = at_ - row := by simp [tkBase, isNew, isLoose, *]
          have hD : tkDash kind dash = false := by simp [tkDash, isNew, isLoose, *]
          rw [hR, hB, hD]
          clear hR hB hD c
          try clear c6
          try clear o
          go_enter Try.func31, Try.ntmps31
          go_wp2_with (first | ((with_reducible refine gate_builtin (b := .append) (xs := #[.tmp 15, .tmp 20]) rfl ?_); at_builtin; refine Kd.R_append k32 (w0 := w0) w0.heap.size rfl (.tmp 15) (.tmp 20) 27 32 (.agg #[(.int .i64 0), (.int .i64 0), (.int .i64 0)]) 24 rfl Try.underlying27 info32 rfl (by decide) (by omega) V l (⟨kind, at_, e1⟩ : S32) [.int .i64 kind, .int .i64 at_, .int .i64 e1] (fun _ => True) (fun _ => False) rfl rfl (k32_mkM _ _ _ _) (fun _ hk => hk.elim) (fun _ _ => trivial) H.out.r H.out.B H.out.B.size (by omega) ?_; intro v1 w1 hr1 hb1 hg1 hat1; obtain ⟨Ao, co, eo⟩ := Kd.R_slice hr1; rw [show (l ++ [(⟨kind, at_, e1⟩ : S32)]).length = l.length + 1 by simp] at eo; subst eo; have H1 := Aside0.mk (H.out.laid hr1 hb1 hg1); have hk1 := H.out.blk1 hg1; have gc1 := blk_cell hk1 1; have gc2 := blk_cell hk1 2; have gc3 := blk_cell hk1 3; have gc4 := blk_cell hk1 4; have gc5 := blk_cell hk1 5; have gc6 := blk_cell hk1 6; have gf1 := blk_frozen hk1 1; have gf2 := blk_frozen hk1 2; have gf3 := blk_frozen hk1 3; have gf4 := blk_frozen hk1 4; have gf5 := blk_frozen hk1 5; have gf6 := blk_frozen hk1 6; clear hr1 hb1 hg1 hat1 hk1) | (go_at_call 18; (with_reducible refine (begin_calls w0 _ g A0 c0 b e1 (.slice Ao (l.length + 1) co) (l ++ [⟨kind, at_, e1⟩]) op row base dash (by repeat (first | exact H1.out | (with_reducible first | apply SR.set1 | apply SR.set3 | apply SR.set4 | apply SR.set5 | apply SR.set6)))).mono ?_); rintro e w2 ⟨rfl, h2⟩; have H2 := Aside0.mk h2; clear h2))
          first | go_end0 | ((try simp only [Exit.inBlock, Exit.then]); refine bodyPost_ret (results_none rfl _ _ _) rfl ?_)
          exact ⟨rfl, _, by repeat (first | exact H2.out | exact H1.out | (with_reducible first | apply SR.set1 | apply SR.set3 | apply SR.set4 | apply SR.set5 | apply SR.set6))⟩
      · rcases (by omega : kind = 5 ∨ kind = 20 ∨ (kind ≠ 5 ∧ kind ≠ 20)) with c6 | c6 | c6
        · have k1 : (kind == 1) = false := by first | (subst c; rfl) | exact beq_eq_false_iff_ne.mpr (by omega)
          have k19 : (kind == 19) = false := by first | (subst c; rfl) | exact beq_eq_false_iff_ne.mpr (by omega)
          have k2 : (kind == 2) = false := by first | (subst c; rfl) | exact beq_eq_false_iff_ne.mpr (by omega)
          have k3 : (kind == 3) = false := by first | (subst c; rfl) | exact beq_eq_false_iff_ne.mpr (by omega)
          have k4 : (kind == 4) = false := by first | (subst c; rfl) | exact beq_eq_false_iff_ne.mpr (by omega)
          have o2 : decide (base < 0) = true := decide_eq_true o
          have k5 : (kind == 5) = true := by rw [c6]; rfl
          have k20 : (kind == 20) = false := beq_eq_false_iff_ne.mpr (by omega)
          have hR : tkRow kind e1 row = row := by simp [tkRow, isNew, *]
          have hB : tkBase kind at_ row base = at_ - row := by simp [tkBase, isNew, isLoose, *]
          have hD : tkDash kind dash = false := by simp [tkDash, isNew, isLoose, *]
          rw [hR, hB, hD]
          clear hR hB hD c
          try clear c6
          try clear o
          go_enter Try.func31, Try.ntmps31
          go_wp2_with (first | ((with_reducible refine gate_builtin (b := .append) (xs := #[.tmp 15, .tmp 20]) rfl ?_); at_builtin; refine Kd.R_append k32 (w0 := w0) w0.heap.size rfl (.tmp 15) (.tmp 20) 27 32 (.agg #[(.int .i64 0), (.int .i64 0), (.int .i64 0)]) 24 rfl Try.underlying27 info32 rfl (by decide) (by omega) V l (⟨kind, at_, e1⟩ : S32) [.int .i64 kind, .int .i64 at_, .int .i64 e1] (fun _ => True) (fun _ => False) rfl rfl (k32_mkM _ _ _ _) (fun _ hk => hk.elim) (fun _ _ => trivial) H.out.r H.out.B H.out.B.size (by omega) ?_; intro v1 w1 hr1 hb1 hg1 hat1; obtain ⟨Ao, co, eo⟩ := Kd.R_slice hr1; rw [show (l ++ [(⟨kind, at_, e1⟩ : S32)]).length = l.length + 1 by simp] at eo; subst eo; have H1 := Aside0.mk (H.out.laid hr1 hb1 hg1); have hk1 := H.out.blk1 hg1; have gc1 := blk_cell hk1 1; have gc2 := blk_cell hk1 2; have gc3 := blk_cell hk1 3; have gc4 := blk_cell hk1 4; have gc5 := blk_cell hk1 5; have gc6 := blk_cell hk1 6; have gf1 := blk_frozen hk1 1; have gf2 := blk_frozen hk1 2; have gf3 := blk_frozen hk1 3; have gf4 := blk_frozen hk1 4; have gf5 := blk_frozen hk1 5; have gf6 := blk_frozen hk1 6; clear hr1 hb1 hg1 hat1 hk1) | (go_at_call 18; (with_reducible refine (begin_calls w0 _ g A0 c0 b e1 (.slice Ao (l.length + 1) co) (l ++ [⟨kind, at_, e1⟩]) op row base dash (by repeat (first | exact H1.out | (with_reducible first | apply SR.set1 | apply SR.set3 | apply SR.set4 | apply SR.set5 | apply SR.set6)))).mono ?_); rintro e w2 ⟨rfl, h2⟩; have H2 := Aside0.mk h2; clear h2))
          first | go_end0 | ((try simp only [Exit.inBlock, Exit.then]); refine bodyPost_ret (results_none rfl _ _ _) rfl ?_)
          exact ⟨rfl, _, by repeat (first | exact H2.out | exact H1.out | (with_reducible first | apply SR.set1 | apply SR.set3 | apply SR.set4 | apply SR.set5 | apply SR.set6))⟩
        · have k1 : (kind == 1) = false := by first | (subst c; rfl) | exact beq_eq_false_iff_ne.mpr (by omega)
          have k19 : (kind == 19) = false := by first | (subst c; rfl) | exact beq_eq_false_iff_ne.mpr (by omega)
          have k2 : (kind == 2) = false := by first | (subst c; rfl) | exact beq_eq_false_iff_ne.mpr (by omega)
          have k3 : (kind == 3) = false := by first | (subst c; rfl) | exact beq_eq_false_iff_ne.mpr (by omega)
          have k4 : (kind == 4) = false := by first | (subst c; rfl) | exact beq_eq_false_iff_ne.mpr (by omega)
          have o2 : decide (base < 0) = true := decide_eq_true o
          have k5 : (kind == 5) = false := beq_eq_false_iff_ne.mpr (by omega)
          have k20 : (kind == 20) = true := by rw [c6]; rfl
          have hR : tkRow kind e1 row = row := by simp [tkRow, isNew, *]
          have hB : tkBase kind at_ row base = at_ - row := by simp [tkBase, isNew, isLoose, *]
          have hD : tkDash kind dash = true := by simp [tkDash, isNew, isLoose, *]
          rw [hR, hB, hD]
          clear hR hB hD c
          try clear c6
          try clear o
          go_enter Try.func31, Try.ntmps31
          go_wp2_with (first | ((with_reducible refine gate_builtin (b := .append) (xs := #[.tmp 15, .tmp 20]) rfl ?_); at_builtin; refine Kd.R_append k32 (w0 := w0) w0.heap.size rfl (.tmp 15) (.tmp 20) 27 32 (.agg #[(.int .i64 0), (.int .i64 0), (.int .i64 0)]) 24 rfl Try.underlying27 info32 rfl (by decide) (by omega) V l (⟨kind, at_, e1⟩ : S32) [.int .i64 kind, .int .i64 at_, .int .i64 e1] (fun _ => True) (fun _ => False) rfl rfl (k32_mkM _ _ _ _) (fun _ hk => hk.elim) (fun _ _ => trivial) H.out.r H.out.B H.out.B.size (by omega) ?_; intro v1 w1 hr1 hb1 hg1 hat1; obtain ⟨Ao, co, eo⟩ := Kd.R_slice hr1; rw [show (l ++ [(⟨kind, at_, e1⟩ : S32)]).length = l.length + 1 by simp] at eo; subst eo; have H1 := Aside0.mk (H.out.laid hr1 hb1 hg1); have hk1 := H.out.blk1 hg1; have gc1 := blk_cell hk1 1; have gc2 := blk_cell hk1 2; have gc3 := blk_cell hk1 3; have gc4 := blk_cell hk1 4; have gc5 := blk_cell hk1 5; have gc6 := blk_cell hk1 6; have gf1 := blk_frozen hk1 1; have gf2 := blk_frozen hk1 2; have gf3 := blk_frozen hk1 3; have gf4 := blk_frozen hk1 4; have gf5 := blk_frozen hk1 5; have gf6 := blk_frozen hk1 6; clear hr1 hb1 hg1 hat1 hk1) | (go_at_call 18; (with_reducible refine (begin_calls w0 _ g A0 c0 b e1 (.slice Ao (l.length + 1) co) (l ++ [⟨kind, at_, e1⟩]) op row base dash (by repeat (first | exact H1.out | (with_reducible first | apply SR.set1 | apply SR.set3 | apply SR.set4 | apply SR.set5 | apply SR.set6)))).mono ?_); rintro e w2 ⟨rfl, h2⟩; have H2 := Aside0.mk h2; clear h2))
          first | go_end0 | ((try simp only [Exit.inBlock, Exit.then]); refine bodyPost_ret (results_none rfl _ _ _) rfl ?_)
          exact ⟨rfl, _, by repeat (first | exact H2.out | exact H1.out | (with_reducible first | apply SR.set1 | apply SR.set3 | apply SR.set4 | apply SR.set5 | apply SR.set6))⟩
        · have k1 : (kind == 1) = false := by first | (subst c; rfl) | exact beq_eq_false_iff_ne.mpr (by omega)
          have k19 : (kind == 19) = false := by first | (subst c; rfl) | exact beq_eq_false_iff_ne.mpr (by omega)
          have k2 : (kind == 2) = false := by first | (subst c; rfl) | exact beq_eq_false_iff_ne.mpr (by omega)
          have k3 : (kind == 3) = false := by first | (subst c; rfl) | exact beq_eq_false_iff_ne.mpr (by omega)
          have k4 : (kind == 4) = false := by first | (subst c; rfl) | exact beq_eq_false_iff_ne.mpr (by omega)
          have o2 : decide (base < 0) = true := decide_eq_true o
          have k5 : (kind == 5) = false := beq_eq_false_iff_ne.mpr (by omega)
          have k20 : (kind == 20) = false := beq_eq_false_iff_ne.mpr (by omega)
          have hR : tkRow kind e1 row = row := by simp [tkRow, isNew, *]
          have hB : tkBase kind at_ row base = at_ - row := by simp [tkBase, isNew, isLoose, *]
          have hD : tkDash kind dash = false := by simp [tkDash, isNew, isLoose, *]
          rw [hR, hB, hD]
          clear hR hB hD c
          try clear c6
          try clear o
          go_enter Try.func31, Try.ntmps31
          go_wp2_with (first | ((with_reducible refine gate_builtin (b := .append) (xs := #[.tmp 15, .tmp 20]) rfl ?_); at_builtin; refine Kd.R_append k32 (w0 := w0) w0.heap.size rfl (.tmp 15) (.tmp 20) 27 32 (.agg #[(.int .i64 0), (.int .i64 0), (.int .i64 0)]) 24 rfl Try.underlying27 info32 rfl (by decide) (by omega) V l (⟨kind, at_, e1⟩ : S32) [.int .i64 kind, .int .i64 at_, .int .i64 e1] (fun _ => True) (fun _ => False) rfl rfl (k32_mkM _ _ _ _) (fun _ hk => hk.elim) (fun _ _ => trivial) H.out.r H.out.B H.out.B.size (by omega) ?_; intro v1 w1 hr1 hb1 hg1 hat1; obtain ⟨Ao, co, eo⟩ := Kd.R_slice hr1; rw [show (l ++ [(⟨kind, at_, e1⟩ : S32)]).length = l.length + 1 by simp] at eo; subst eo; have H1 := Aside0.mk (H.out.laid hr1 hb1 hg1); have hk1 := H.out.blk1 hg1; have gc1 := blk_cell hk1 1; have gc2 := blk_cell hk1 2; have gc3 := blk_cell hk1 3; have gc4 := blk_cell hk1 4; have gc5 := blk_cell hk1 5; have gc6 := blk_cell hk1 6; have gf1 := blk_frozen hk1 1; have gf2 := blk_frozen hk1 2; have gf3 := blk_frozen hk1 3; have gf4 := blk_frozen hk1 4; have gf5 := blk_frozen hk1 5; have gf6 := blk_frozen hk1 6; clear hr1 hb1 hg1 hat1 hk1) | (go_at_call 18; (with_reducible refine (begin_calls w0 _ g A0 c0 b e1 (.slice Ao (l.length + 1) co) (l ++ [⟨kind, at_, e1⟩]) op row base dash (by repeat (first | exact H1.out | (with_reducible first | apply SR.set1 | apply SR.set3 | apply SR.set4 | apply SR.set5 | apply SR.set6)))).mono ?_); rintro e w2 ⟨rfl, h2⟩; have H2 := Aside0.mk h2; clear h2))
          first | go_end0 | ((try simp only [Exit.inBlock, Exit.then]); refine bodyPost_ret (results_none rfl _ _ _) rfl ?_)
          exact ⟨rfl, _, by repeat (first | exact H2.out | exact H1.out | (with_reducible first | apply SR.set1 | apply SR.set3 | apply SR.set4 | apply SR.set5 | apply SR.set6))⟩
    · rcases (by cases dash <;> simp : dash = true ∨ dash = false) with hd | hd
      · rcases (by omega : kind = 5 ∨ kind = 20 ∨ (kind ≠ 5 ∧ kind ≠ 20)) with c6 | c6 | c6
        · have k1 : (kind == 1) = false := by first | (subst c; rfl) | exact beq_eq_false_iff_ne.mpr (by omega)
          have k19 : (kind == 19) = false := by first | (subst c; rfl) | exact beq_eq_false_iff_ne.mpr (by omega)
          have k2 : (kind == 2) = false := by first | (subst c; rfl) | exact beq_eq_false_iff_ne.mpr (by omega)
          have k3 : (kind == 3) = false := by first | (subst c; rfl) | exact beq_eq_false_iff_ne.mpr (by omega)
          have k4 : (kind == 4) = false := by first | (subst c; rfl) | exact beq_eq_false_iff_ne.mpr (by omega)
          have o2 : decide (base < 0) = false := decide_eq_false o
          have k5 : (kind == 5) = true := by rw [c6]; rfl
          have k20 : (kind == 20) = false := beq_eq_false_iff_ne.mpr (by omega)
          have hR : tkRow kind e1 row = row := by simp [tkRow, isNew, *]
          have hB : tkBase kind at_ row base = base := by simp [tkBase, isNew, isLoose, *]
          have hD : tkDash kind dash = true := by simp [tkDash, isNew, isLoose, *]
          rw [hR, hB, hD]
          clear hR hB hD c
          try clear c6
          try clear o
          go_enter Try.func31, Try.ntmps31
          go_wp2_with (first | ((with_reducible refine gate_builtin (b := .append) (xs := #[.tmp 15, .tmp 20]) rfl ?_); at_builtin; refine Kd.R_append k32 (w0 := w0) w0.heap.size rfl (.tmp 15) (.tmp 20) 27 32 (.agg #[(.int .i64 0), (.int .i64 0), (.int .i64 0)]) 24 rfl Try.underlying27 info32 rfl (by decide) (by omega) V l (⟨kind, at_, e1⟩ : S32) [.int .i64 kind, .int .i64 at_, .int .i64 e1] (fun _ => True) (fun _ => False) rfl rfl (k32_mkM _ _ _ _) (fun _ hk => hk.elim) (fun _ _ => trivial) H.out.r H.out.B H.out.B.size (by omega) ?_; intro v1 w1 hr1 hb1 hg1 hat1; obtain ⟨Ao, co, eo⟩ := Kd.R_slice hr1; rw [show (l ++ [(⟨kind, at_, e1⟩ : S32)]).length = l.length + 1 by simp] at eo; subst eo; have H1 := Aside0.mk (H.out.laid hr1 hb1 hg1); have hk1 := H.out.blk1 hg1; have gc1 := blk_cell hk1 1; have gc2 := blk_cell hk1 2; have gc3 := blk_cell hk1 3; have gc4 := blk_cell hk1 4; have gc5 := blk_cell hk1 5; have gc6 := blk_cell hk1 6; have gf1 := blk_frozen hk1 1; have gf2 := blk_frozen hk1 2; have gf3 := blk_frozen hk1 3; have gf4 := blk_frozen hk1 4; have gf5 := blk_frozen hk1 5; have gf6 := blk_frozen hk1 6; clear hr1 hb1 hg1 hat1 hk1) | (go_at_call 18; (with_reducible refine (begin_calls w0 _ g A0 c0 b e1 (.slice Ao (l.length + 1) co) (l ++ [⟨kind, at_, e1⟩]) op row base dash (by repeat (first | exact H1.out | (with_reducible first | apply SR.set1 | apply SR.set3 | apply SR.set4 | apply SR.set5 | apply SR.set6)))).mono ?_); rintro e w2 ⟨rfl, h2⟩; have H2 := Aside0.mk h2; clear h2))
          first | go_end0 | ((try simp only [Exit.inBlock, Exit.then]); refine bodyPost_ret (results_none rfl _ _ _) rfl ?_)
          exact ⟨rfl, _, by repeat (first | exact H2.out | exact H1.out | (with_reducible first | apply SR.set1 | apply SR.set3 | apply SR.set4 | apply SR.set5 | apply SR.set6))⟩
        · have k1 : (kind == 1) = false := by first | (subst c; rfl) | exact beq_eq_false_iff_ne.mpr (by omega)
          have k19 : (kind == 19) = false := by first | (subst c; rfl) | exact beq_eq_false_iff_ne.mpr (by omega)
          have k2 : (kind == 2) = false := by first | (subst c; rfl) | exact beq_eq_false_iff_ne.mpr (by omega)
          have k3 : (kind == 3) = false := by first | (subst c; rfl) | exact beq_eq_false_iff_ne.mpr (by omega)
          have k4 : (kind == 4) = false := by first | (subst c; rfl) | exact beq_eq_false_iff_ne.mpr (by omega)
          have o2 : decide (base < 0) = false := decide_eq_false o
          have k5 : (kind == 5) = false := beq_eq_false_iff_ne.mpr (by omega)
          have k20 : (kind == 20) = true := by rw [c6]; rfl
          have hR : tkRow kind e1 row = row := by simp [tkRow, isNew, *]
          have hB : tkBase kind at_ row base = base := by simp [tkBase, isNew, isLoose, *]
          have hD : tkDash kind dash = true := by simp [tkDash, isNew, isLoose, *]
          rw [hR, hB, hD]
          clear hR hB hD c
          try clear c6
          try clear o
          go_enter Try.func31, Try.ntmps31
          go_wp2_with (first | ((with_reducible refine gate_builtin (b := .append) (xs := #[.tmp 15, .tmp 20]) rfl ?_); at_builtin; refine Kd.R_append k32 (w0 := w0) w0.heap.size rfl (.tmp 15) (.tmp 20) 27 32 (.agg #[(.int .i64 0), (.int .i64 0), (.int .i64 0)]) 24 rfl Try.underlying27 info32 rfl (by decide) (by omega) V l (⟨kind, at_, e1⟩ : S32) [.int .i64 kind, .int .i64 at_, .int .i64 e1] (fun _ => True) (fun _ => False) rfl rfl (k32_mkM _ _ _ _) (fun _ hk => hk.elim) (fun _ _ => trivial) H.out.r H.out.B H.out.B.size (by omega) ?_; intro v1 w1 hr1 hb1 hg1 hat1; obtain ⟨Ao, co, eo⟩ := Kd.R_slice hr1; rw [show (l ++ [(⟨kind, at_, e1⟩ : S32)]).length = l.length + 1 by simp] at eo; subst eo; have H1 := Aside0.mk (H.out.laid hr1 hb1 hg1); have hk1 := H.out.blk1 hg1; have gc1 := blk_cell hk1 1; have gc2 := blk_cell hk1 2; have gc3 := blk_cell hk1 3; have gc4 := blk_cell hk1 4; have gc5 := blk_cell hk1 5; have gc6 := blk_cell hk1 6; have gf1 := blk_frozen hk1 1; have gf2 := blk_frozen hk1 2; have gf3 := blk_frozen hk1 3; have gf4 := blk_frozen hk1 4; have gf5 := blk_frozen hk1 5; have gf6 := blk_frozen hk1 6; clear hr1 hb1 hg1 hat1 hk1) | (go_at_call 18; (with_reducible refine (begin_calls w0 _ g A0 c0 b e1 (.slice Ao (l.length + 1) co) (l ++ [⟨kind, at_, e1⟩]) op row base dash (by repeat (first | exact H1.out | (with_reducible first | apply SR.set1 | apply SR.set3 | apply SR.set4 | apply SR.set5 | apply SR.set6)))).mono ?_); rintro e w2 ⟨rfl, h2⟩; have H2 := Aside0.mk h2; clear h2))
          first | go_end0 | ((try simp only [Exit.inBlock, Exit.then]); refine bodyPost_ret (results_none rfl _ _ _) rfl ?_)
          exact ⟨rfl, _, by repeat (first | exact H2.out | exact H1.out | (with_reducible first | apply SR.set1 | apply SR.set3 | apply SR.set4 | apply SR.set5 | apply SR.set6))⟩
        · have k1 : (kind == 1) = false := by first | (subst c; rfl) | exact beq_eq_false_iff_ne.mpr (by omega)
          have k19 : (kind == 19) = false := by first | (subst c; rfl) | exact beq_eq_false_iff_ne.mpr (by omega)
          have k2 : (kind == 2) = false := by first | (subst c; rfl) | exact beq_eq_false_iff_ne.mpr (by omega)
          have k3 : (kind == 3) = false := by first | (subst c; rfl) | exact beq_eq_false_iff_ne.mpr (by omega)
          have k4 : (kind == 4) = false := by first | (subst c; rfl) | exact beq_eq_false_iff_ne.mpr (by omega)
          have o2 : decide (base < 0) = false := decide_eq_false o
          have k5 : (kind == 5) = false := beq_eq_false_iff_ne.mpr (by omega)
          have k20 : (kind == 20) = false := beq_eq_false_iff_ne.mpr (by omega)
          have hR : tkRow kind e1 row = row := by simp [tkRow, isNew, *]
          have hB : tkBase kind at_ row base = base := by simp [tkBase, isNew, isLoose, *]
          have hD : tkDash kind dash = false := by simp [tkDash, isNew, isLoose, *]
          rw [hR, hB, hD]
          clear hR hB hD c
          try clear c6
          try clear o
          go_enter Try.func31, Try.ntmps31
          go_wp2_with (first | ((with_reducible refine gate_builtin (b := .append) (xs := #[.tmp 15, .tmp 20]) rfl ?_); at_builtin; refine Kd.R_append k32 (w0 := w0) w0.heap.size rfl (.tmp 15) (.tmp 20) 27 32 (.agg #[(.int .i64 0), (.int .i64 0), (.int .i64 0)]) 24 rfl Try.underlying27 info32 rfl (by decide) (by omega) V l (⟨kind, at_, e1⟩ : S32) [.int .i64 kind, .int .i64 at_, .int .i64 e1] (fun _ => True) (fun _ => False) rfl rfl (k32_mkM _ _ _ _) (fun _ hk => hk.elim) (fun _ _ => trivial) H.out.r H.out.B H.out.B.size (by omega) ?_; intro v1 w1 hr1 hb1 hg1 hat1; obtain ⟨Ao, co, eo⟩ := Kd.R_slice hr1; rw [show (l ++ [(⟨kind, at_, e1⟩ : S32)]).length = l.length + 1 by simp] at eo; subst eo; have H1 := Aside0.mk (H.out.laid hr1 hb1 hg1); have hk1 := H.out.blk1 hg1; have gc1 := blk_cell hk1 1; have gc2 := blk_cell hk1 2; have gc3 := blk_cell hk1 3; have gc4 := blk_cell hk1 4; have gc5 := blk_cell hk1 5; have gc6 := blk_cell hk1 6; have gf1 := blk_frozen hk1 1; have gf2 := blk_frozen hk1 2; have gf3 := blk_frozen hk1 3; have gf4 := blk_frozen hk1 4; have gf5 := blk_frozen hk1 5; have gf6 := blk_frozen hk1 6; clear hr1 hb1 hg1 hat1 hk1) | (go_at_call 18; (with_reducible refine (begin_calls w0 _ g A0 c0 b e1 (.slice Ao (l.length + 1) co) (l ++ [⟨kind, at_, e1⟩]) op row base dash (by repeat (first | exact H1.out | (with_reducible first | apply SR.set1 | apply SR.set3 | apply SR.set4 | apply SR.set5 | apply SR.set6)))).mono ?_); rintro e w2 ⟨rfl, h2⟩; have H2 := Aside0.mk h2; clear h2))
          first | go_end0 | ((try simp only [Exit.inBlock, Exit.then]); refine bodyPost_ret (results_none rfl _ _ _) rfl ?_)
          exact ⟨rfl, _, by repeat (first | exact H2.out | exact H1.out | (with_reducible first | apply SR.set1 | apply SR.set3 | apply SR.set4 | apply SR.set5 | apply SR.set6))⟩
      · rcases (by omega : kind = 5 ∨ kind = 20 ∨ (kind ≠ 5 ∧ kind ≠ 20)) with c6 | c6 | c6
        · have k1 : (kind == 1) = false := by first | (subst c; rfl) | exact beq_eq_false_iff_ne.mpr (by omega)
          have k19 : (kind == 19) = false := by first | (subst c; rfl) | exact beq_eq_false_iff_ne.mpr (by omega)
          have k2 : (kind == 2) = false := by first | (subst c; rfl) | exact beq_eq_false_iff_ne.mpr (by omega)
          have k3 : (kind == 3) = false := by first | (subst c; rfl) | exact beq_eq_false_iff_ne.mpr (by omega)
          have k4 : (kind == 4) = false := by first | (subst c; rfl) | exact beq_eq_false_iff_ne.mpr (by omega)
          have o2 : decide (base < 0) = false := decide_eq_false o
          have k5 : (kind == 5) = true := by rw [c6]; rfl
          have k20 : (kind == 20) = false := beq_eq_false_iff_ne.mpr (by omega)
          have hR : tkRow kind e1 row = row := by simp [tkRow, isNew, *]
          have hB : tkBase kind at_ row base = base := by simp [tkBase, isNew, isLoose, *]
          have hD : tkDash kind dash = false := by simp [tkDash, isNew, isLoose, *]
          rw [hR, hB, hD]
          clear hR hB hD c
          try clear c6
          try clear o
          go_enter Try.func31, Try.ntmps31
          go_wp2_with (first | ((with_reducible refine gate_builtin (b := .append) (xs := #[.tmp 15, .tmp 20]) rfl ?_); at_builtin; refine Kd.R_append k32 (w0 := w0) w0.heap.size rfl (.tmp 15) (.tmp 20) 27 32 (.agg #[(.int .i64 0), (.int .i64 0), (.int .i64 0)]) 24 rfl Try.underlying27 info32 rfl (by decide) (by omega) V l (⟨kind, at_, e1⟩ : S32) [.int .i64 kind, .int .i64 at_, .int .i64 e1] (fun _ => True) (fun _ => False) rfl rfl (k32_mkM _ _ _ _) (fun _ hk => hk.elim) (fun _ _ => trivial) H.out.r H.out.B H.out.B.size (by omega) ?_; intro v1 w1 hr1 hb1 hg1 hat1; obtain ⟨Ao, co, eo⟩ := Kd.R_slice hr1; rw [show (l ++ [(⟨kind, at_, e1⟩ : S32)]).length = l.length + 1 by simp] at eo; subst eo; have H1 := Aside0.mk (H.out.laid hr1 hb1 hg1); have hk1 := H.out.blk1 hg1; have gc1 := blk_cell hk1 1; have gc2 := blk_cell hk1 2; have gc3 := blk_cell hk1 3; have gc4 := blk_cell hk1 4; have gc5 := blk_cell hk1 5; have gc6 := blk_cell hk1 6; have gf1 := blk_frozen hk1 1; have gf2 := blk_frozen hk1 2; have gf3 := blk_frozen hk1 3; have gf4 := blk_frozen hk1 4; have gf5 := blk_frozen hk1 5; have gf6 := blk_frozen hk1 6; clear hr1 hb1 hg1 hat1 hk1) | (go_at_call 18; (with_reducible refine (begin_calls w0 _ g A0 c0 b e1 (.slice Ao (l.length + 1) co) (l ++ [⟨kind, at_, e1⟩]) op row base dash (by repeat (first | exact H1.out | (with_reducible first | apply SR.set1 | apply SR.set3 | apply SR.set4 | apply SR.set5 | apply SR.set6)))).mono ?_); rintro e w2 ⟨rfl, h2⟩; have H2 := Aside0.mk h2; clear h2))
          first | go_end0 | ((try simp only [Exit.inBlock, Exit.then]); refine bodyPost_ret (results_none rfl _ _ _) rfl ?_)
          exact ⟨rfl, _, by repeat (first | exact H2.out | exact H1.out | (with_reducible first | apply SR.set1 | apply SR.set3 | apply SR.set4 | apply SR.set5 | apply SR.set6))⟩
        · have k1 : (kind == 1) = false := by first | (subst c; rfl) | exact beq_eq_false_iff_ne.mpr (by omega)
          have k19 : (kind == 19) = false := by first | (subst c; rfl) | exact beq_eq_false_iff_ne.mpr (by omega)
          have k2 : (kind == 2) = false := by first | (subst c; rfl) | exact beq_eq_false_iff_ne.mpr (by omega)
          have k3 : (kind == 3) = false := by first | (subst c; rfl) | exact beq_eq_false_iff_ne.mpr (by omega)
          have k4 : (kind == 4) = false := by first | (subst c; rfl) | exact beq_eq_false_iff_ne.mpr (by omega)
          have o2 : decide (base < 0) = false := decide_eq_false o
          have k5 : (kind == 5) = false := beq_eq_false_iff_ne.mpr (by omega)
          have k20 : (kind == 20) = true := by rw [c6]; rfl
          have hR : tkRow kind e1 row = row := by simp [tkRow, isNew, *]
          have hB : tkBase kind at_ row base = base := by simp [tkBase, isNew, isLoose, *]
          have hD : tkDash kind dash = true := by simp [tkDash, isNew, isLoose, *]
          rw [hR, hB, hD]
          clear hR hB hD c
          try clear c6
          try clear o
          go_enter Try.func31, Try.ntmps31
          go_wp2_with (first | ((with_reducible refine gate_builtin (b := .append) (xs := #[.tmp 15, .tmp 20]) rfl ?_); at_builtin; refine Kd.R_append k32 (w0 := w0) w0.heap.size rfl (.tmp 15) (.tmp 20) 27 32 (.agg #[(.int .i64 0), (.int .i64 0), (.int .i64 0)]) 24 rfl Try.underlying27 info32 rfl (by decide) (by omega) V l (⟨kind, at_, e1⟩ : S32) [.int .i64 kind, .int .i64 at_, .int .i64 e1] (fun _ => True) (fun _ => False) rfl rfl (k32_mkM _ _ _ _) (fun _ hk => hk.elim) (fun _ _ => trivial) H.out.r H.out.B H.out.B.size (by omega) ?_; intro v1 w1 hr1 hb1 hg1 hat1; obtain ⟨Ao, co, eo⟩ := Kd.R_slice hr1; rw [show (l ++ [(⟨kind, at_, e1⟩ : S32)]).length = l.length + 1 by simp] at eo; subst eo; have H1 := Aside0.mk (H.out.laid hr1 hb1 hg1); have hk1 := H.out.blk1 hg1; have gc1 := blk_cell hk1 1; have gc2 := blk_cell hk1 2; have gc3 := blk_cell hk1 3; have gc4 := blk_cell hk1 4; have gc5 := blk_cell hk1 5; have gc6 := blk_cell hk1 6; have gf1 := blk_frozen hk1 1; have gf2 := blk_frozen hk1 2; have gf3 := blk_frozen hk1 3; have gf4 := blk_frozen hk1 4; have gf5 := blk_frozen hk1 5; have gf6 := blk_frozen hk1 6; clear hr1 hb1 hg1 hat1 hk1) | (go_at_call 18; (with_reducible refine (begin_calls w0 _ g A0 c0 b e1 (.slice Ao (l.length + 1) co) (l ++ [⟨kind, at_, e1⟩]) op row base dash (by repeat (first | exact H1.out | (with_reducible first | apply SR.set1 | apply SR.set3 | apply SR.set4 | apply SR.set5 | apply SR.set6)))).mono ?_); rintro e w2 ⟨rfl, h2⟩; have H2 := Aside0.mk h2; clear h2))
          first | go_end0 | ((try simp only [Exit.inBlock, Exit.then]); refine bodyPost_ret (results_none rfl _ _ _) rfl ?_)
          exact ⟨rfl, _, by repeat (first | exact H2.out | exact H1.out | (with_reducible first | apply SR.set1 | apply SR.set3 | apply SR.set4 | apply SR.set5 | apply SR.set6))⟩
        · have k1 : (kind == 1) = false := by first | (subst c; rfl) | exact beq_eq_false_iff_ne.mpr (by omega)
          have k19 : (kind == 19) = false := by first | (subst c; rfl) | exact beq_eq_false_iff_ne.mpr (by omega)
          have k2 : (kind == 2) = false := by first | (subst c; rfl) | exact beq_eq_false_iff_ne.mpr (by omega)
          have k3 : (kind == 3) = false := by first | (subst c; rfl) | exact beq_eq_false_iff_ne.mpr (by omega)
          have k4 : (kind == 4) = false := by first | (subst c; rfl) | exact beq_eq_false_iff_ne.mpr (by omega)
          have o2 : decide (base < 0) = false := decide_eq_false o
          have k5 : (kind == 5) = false := beq_eq_false_iff_ne.mpr (by omega)
          have k20 : (kind == 20) = false := beq_eq_false_iff_ne.mpr (by omega)
          have hR : tkRow kind e1 row = row := by simp [tkRow, isNew, *]
          have hB : tkBase kind at_ row base = base := by simp [tkBase, isNew, isLoose, *]
          have hD : tkDash kind dash = false := by simp [tkDash, isNew, isLoose, *]
          rw [hR, hB, hD]
          clear hR hB hD c
          try clear c6
          try clear o
          go_enter Try.func31, Try.ntmps31
          go_wp2_with (first | ((with_reducible refine gate_builtin (b := .append) (xs := #[.tmp 15, .tmp 20]) rfl ?_); at_builtin; refine Kd.R_append k32 (w0 := w0) w0.heap.size rfl (.tmp 15) (.tmp 20) 27 32 (.agg #[(.int .i64 0), (.int .i64 0), (.int .i64 0)]) 24 rfl Try.underlying27 info32 rfl (by decide) (by omega) V l (⟨kind, at_, e1⟩ : S32) [.int .i64 kind, .int .i64 at_, .int .i64 e1] (fun _ => True) (fun _ => False) rfl rfl (k32_mkM _ _ _ _) (fun _ hk => hk.elim) (fun _ _ => trivial) H.out.r H.out.B H.out.B.size (by omega) ?_; intro v1 w1 hr1 hb1 hg1 hat1; obtain ⟨Ao, co, eo⟩ := Kd.R_slice hr1; rw [show (l ++ [(⟨kind, at_, e1⟩ : S32)]).length = l.length + 1 by simp] at eo; subst eo; have H1 := Aside0.mk (H.out.laid hr1 hb1 hg1); have hk1 := H.out.blk1 hg1; have gc1 := blk_cell hk1 1; have gc2 := blk_cell hk1 2; have gc3 := blk_cell hk1 3; have gc4 := blk_cell hk1 4; have gc5 := blk_cell hk1 5; have gc6 := blk_cell hk1 6; have gf1 := blk_frozen hk1 1; have gf2 := blk_frozen hk1 2; have gf3 := blk_frozen hk1 3; have gf4 := blk_frozen hk1 4; have gf5 := blk_frozen hk1 5; have gf6 := blk_frozen hk1 6; clear hr1 hb1 hg1 hat1 hk1) | (go_at_call 18; (with_reducible refine (begin_calls w0 _ g A0 c0 b e1 (.slice Ao (l.length + 1) co) (l ++ [⟨kind, at_, e1⟩]) op row base dash (by repeat (first | exact H1.out | (with_reducible first | apply SR.set1 | apply SR.set3 | apply SR.set4 | apply SR.set5 | apply SR.set6)))).mono ?_); rintro e w2 ⟨rfl, h2⟩; have H2 := Aside0.mk h2; clear h2))
          first | go_end0 | ((try simp only [Exit.inBlock, Exit.then]); refine bodyPost_ret (results_none rfl _ _ _) rfl ?_)
          exact ⟨rfl, _, by repeat (first | exact H2.out | exact H1.out | (with_reducible first | apply SR.set1 | apply SR.set3 | apply SR.set4 | apply SR.set5 | apply SR.set6))⟩

end Go.Proofs.Ythoogadfhopkfaa.Sc
