/- A weight is valid.
Weights: Join.
Weights: Repeat. -/
import Derived.Test.YtplccefjljdjnaaNum
import Derived.Test.YtplccefjljdjnaaCom
set_option linter.unusedVariables false
set_option linter.unusedSimpArgs false
namespace Go.Proofs.Ytplccefjljdjnaa
open Go.RowKit Go.Lib
namespace M
attribute [local go_sem] Oper.semAt_some
structure WtOk (w : Wt) : Prop where
  good : Good w
  le : w.len ≤ 1152921504606846976
  v : w.d.v < 2305843009213693951
  z : w.len = 0 → w.d.v = 0
  s : w.d.s = bs ^ w.len % P
theorem wt_ok {t : List Nat} (h : t.length ≤ 1152921504606846976) : WtOk (wt t) := ⟨good_wt t, h, dgv_lt t, fun e => by
  have : t = [] := List.eq_nil_of_length_eq_zero e
  subst this; rfl, rfl⟩
theorem WtOk.dok {w : Wt} (h : WtOk w) : w.d.ok := ⟨by have := h.v; omega, by rw [h.s]; exact Nat.lt_trans (Nat.mod_lt _ Q_pos) Q_lt⟩
theorem box_wt (W : World) (w : Wt) : ∃ W1, W.alloc (.cells #[.int .i64 w.len, .int .i64 w.lines, .int .i64 w.head, .int .i64 w.tail, .int .u64 w.d.v, .int .u64 w.d.s] 118) = W1 ∧ WtC W1 W.heap.size w ∧ Below W.heap.size W W1 := ⟨_, rfl, heap_new' _ _, (Below.refl _ _).alloc (Nat.le_refl _) _⟩
set_option maxRecDepth 100000 in
set_option maxHeartbeats 2000000 in
theorem wvalid_any (W : World) {w : Wt} (hw : WtOk w) : Calls Try.prog 73 #[.agg #[.int .i64 w.len, .int .i64 w.lines, .int .i64 w.head, .int .i64 w.tail, .int .u64 w.d.v, .int .u64 w.d.s]] W fun e w' => e = .returned (.bool true) ∧ Below W.heap.size W w' := by
  have HF : ∀ f, Fence.wide.fn f := fun _ => trivial
  obtain ⟨⟨g1, g2, g3⟩, h1, h2, h3, h4⟩ := hw
  obtain ⟨l, n, h, t, v, s⟩ := w
  dsimp only at *
  obtain ⟨W1, hW1, k1, b1⟩ := box_wt W ⟨l, n, h, t, v, s⟩
  dsimp only at hW1
  obtain ⟨c0, c1, c2, c3, c4, c5⟩ := k1.cells
  dsimp only at c0 c1 c2 c3 c4 c5
  have K1 := Lib.hid k1; have B1 := Lib.hid b1; have H4 := Lib.hid h4; have H1 := Lib.hid h1
  have m0 : ∀ w, Below W1.heap.size W1 w → w.cell? ⟨W.heap.size, 0, none⟩ = some (.int .i64 l) := fun w h => (WtC.cells (below_block h k1)).1
  have m5 : ∀ w, Below W1.heap.size W1 w → w.cell? ⟨W.heap.size, 5, none⟩ = some (.int .u64 s) := fun w h => (WtC.cells (below_block h k1)).2.2.2.2.2
  have hwl : IntKind.u64.wrap (l : Int) = (l : Int) := by rw [IntKind.wrap_u64]; omega
  have zb : decide ((2305843009213693951 : Int) ≤ (v : Int)) = false := decide_eq_false (by omega)
  have hse : ((s : Int) == ((bs ^ l % P : Nat) : Int)) = true := by rw [h4]; simp
  clear k1 b1 h4
  go_enter Try.func73, Try.ntmps73
  go_wp2_with fail
  refine (valid_yes W1 h1).mono ?_; rintro e w1 ⟨rfl, h⟩; rw [h]; clear h w1
  clear h1
  have H2 := Lib.hid h2
  clear h2
  have n0 : ¬ ((n : Int) < 0) := by omega
  by_cases hn : n = 0
  · obtain ⟨rfl, rfl⟩ := g1 hn
    subst hn
    have nn : ((0 : Int) == 0) = true := rfl
    have hh : ((t : Int) != (t : Int)) = false := by simp
    clear g1 g2 g3
    by_cases hl : t = 0
    · have hv := h3 hl
      subst hl hv
      go_wp2_with fail
      clear c0 c1 c2 c3 c4 c5 hW1
      refine wp_region_anyH (Below W1.heap.size W1) (by kernel_rfl) ?_
      have S0 : Below W1.heap.size W1 W1.drew := (Below.refl _ _).drew
      obtain ⟨w2, hw2⟩ : ∃ w, W1.drew = w := ⟨_, rfl⟩
      rw [hw2] at S0 ⊢
      clear hw2
      refine AnyH.take (i := 0) (d := some 89) (v := ?_) (by kernel_rfl) rfl rfl HF (fun _ _ _ h => h) (.inl ⟨by rfl, ?_⟩) (by first | assumption | rfl) ?_
      rotate_left
      · intro w hS; try subst hS
        go_simp; try with_reducible rfl
      try simp only [Act.put, List.setIfInBounds_toArray, List.set_cons_zero, List.set_cons_succ]
      refine AnyH.take (i := 1) (d := some 90) (v := ?_) (by kernel_rfl) rfl rfl HF (fun _ _ _ h => h) (.inl ⟨by rfl, ?_⟩) (by first | assumption | rfl) ?_
      rotate_left
      · intro w hS; try subst hS
        go_simp; try with_reducible rfl
      try simp only [Act.put, List.setIfInBounds_toArray, List.set_cons_zero, List.set_cons_succ]
      refine AnyH.take (i := 2) (d := some 91) (v := ?_) (by kernel_rfl) rfl rfl HF (fun _ _ _ h => h) (.inl ⟨by rfl, ?_⟩) (by first | assumption | rfl) ?_
      rotate_left
      · intro w hS; try subst hS
        go_simp; try with_reducible rfl
      try simp only [Act.put, List.setIfInBounds_toArray, List.set_cons_zero, List.set_cons_succ]
      refine AnyH.take (i := 3) (d := some 92) (v := ?_) (by kernel_rfl) rfl rfl HF (fun _ _ _ h => h) (.inl ⟨by rfl, ?_⟩) (by first | assumption | rfl) ?_
      rotate_left
      · intro w hS; try subst hS
        go_simp; try with_reducible rfl
      try simp only [Act.put, List.setIfInBounds_toArray, List.set_cons_zero, List.set_cons_succ]
      refine AnyH.take (i := 4) (d := some 93) (v := ?_) (by kernel_rfl) rfl rfl HF (fun _ _ _ h => h) (.inl ⟨by rfl, ?_⟩) (by first | assumption | rfl) ?_
      rotate_left
      · intro w hS; try subst hS
        go_simp; try with_reducible rfl
      try simp only [Act.put, List.setIfInBounds_toArray, List.set_cons_zero, List.set_cons_succ]
      refine AnyH.take (i := 5) (d := some 94) (v := ?_) (by kernel_rfl) rfl rfl HF (fun _ _ _ h => h) (.inl ⟨by rfl, ?_⟩) (by first | assumption | rfl) ?_
      rotate_left
      · intro w hS; try subst hS
        go_simp; try with_reducible rfl
      try simp only [Act.put, List.setIfInBounds_toArray, List.set_cons_zero, List.set_cons_succ]
      refine AnyH.one (i := 6) (by kernel_rfl) (by kernel_rfl) rfl HF (by rfl) (fun K hK => ?_)
      go_simp
      first | ((with_reducible refine And.intro ?hdep ?_); (case hdep => first | rfl | (intro h; cases h))) | skip
      refine callsIn_wide.2 ((pow_any w2 1103515245 0 (by omega) (by have := H1.out; omega)).mono ?_)
      rintro e w ⟨rfl, h⟩; rw [h]; clear h w
      refine hK _ _ S0 ?_
      clear hK K
      try simp only [Act.put, List.setIfInBounds_toArray, List.set_cons_zero, List.set_cons_succ]
      refine AnyH.take (i := 7) (d := some 96) (v := ?_) (by kernel_rfl) rfl rfl HF (fun _ _ _ h => h) (.inl ⟨by rfl, ?_⟩) (by first | assumption | rfl) ?_
      rotate_left
      · intro w hS; try subst hS
        go_simp; try with_reducible rfl
      try simp only [Act.put, List.setIfInBounds_toArray, List.set_cons_zero, List.set_cons_succ]
      refine AnyH.take (i := 8) (d := some 2) (v := ?_) (by kernel_rfl) rfl rfl HF (fun _ _ _ h => h) (.inl ⟨by rfl, ?_⟩) (by first | assumption | rfl) ?_
      rotate_left
      · intro w hS; try subst hS
        go_simp; try with_reducible rfl
      try simp only [Act.put, List.setIfInBounds_toArray, List.set_cons_zero, List.set_cons_succ]
      refine AnyH.done (by kernel_rfl) ?_
      have B2 := Lib.hid (Below.after B1.out S0)
      clear S0 m0 m5
      gi_wp2_with fail
      go_wp2_with fail
      go_ret
      exact ⟨by simp [H4.out, bs], B2.out⟩
    · have hl0 : ((t : Int) == 0) = false := by simp; omega
      go_wp2_with fail
      clear c0 c1 c2 c3 c4 c5 hW1
      refine wp_region_anyH (Below W1.heap.size W1) (by kernel_rfl) ?_
      have S0 : Below W1.heap.size W1 W1.drew := (Below.refl _ _).drew
      obtain ⟨w2, hw2⟩ : ∃ w, W1.drew = w := ⟨_, rfl⟩
      rw [hw2] at S0 ⊢
      clear hw2
      refine AnyH.take (i := 0) (d := some 89) (v := ?_) (by kernel_rfl) rfl rfl HF (fun _ _ _ h => h) (.inl ⟨by rfl, ?_⟩) (by first | assumption | rfl) ?_
      rotate_left
      · intro w hS; try subst hS
        go_simp; try with_reducible rfl
      try simp only [Act.put, List.setIfInBounds_toArray, List.set_cons_zero, List.set_cons_succ]
      refine AnyH.take (i := 1) (d := some 90) (v := ?_) (by kernel_rfl) rfl rfl HF (fun _ _ _ h => h) (.inl ⟨by rfl, ?_⟩) (by first | assumption | rfl) ?_
      rotate_left
      · intro w hS; try subst hS
        go_simp; try with_reducible rfl
      try simp only [Act.put, List.setIfInBounds_toArray, List.set_cons_zero, List.set_cons_succ]
      refine AnyH.take (i := 2) (d := some 91) (v := ?_) (by kernel_rfl) rfl rfl HF (fun _ _ _ h => h) (.inl ⟨by rfl, ?_⟩) (by first | assumption | rfl) ?_
      rotate_left
      · intro w hS; try subst hS
        go_simp; try with_reducible rfl
      try simp only [Act.put, List.setIfInBounds_toArray, List.set_cons_zero, List.set_cons_succ]
      refine AnyH.take (i := 3) (d := some 92) (v := ?_) (by kernel_rfl) rfl rfl HF (fun _ _ _ h => h) (.inl ⟨by rfl, ?_⟩) (by first | assumption | rfl) ?_
      rotate_left
      · intro w hS; try subst hS
        go_simp; try with_reducible rfl
      try simp only [Act.put, List.setIfInBounds_toArray, List.set_cons_zero, List.set_cons_succ]
      refine AnyH.take (i := 4) (d := some 93) (v := ?_) (by kernel_rfl) rfl rfl HF (fun _ _ _ h => h) (.inl ⟨by rfl, ?_⟩) (by first | assumption | rfl) ?_
      rotate_left
      · intro w hS; try subst hS
        go_simp; try with_reducible rfl
      try simp only [Act.put, List.setIfInBounds_toArray, List.set_cons_zero, List.set_cons_succ]
      refine AnyH.take (i := 5) (d := some 94) (v := ?_) (by kernel_rfl) rfl rfl HF (fun _ _ _ h => h) (.inl ⟨by rfl, ?_⟩) (by first | assumption | rfl) ?_
      rotate_left
      · intro w hS; try subst hS
        go_simp; try with_reducible rfl
      try simp only [Act.put, List.setIfInBounds_toArray, List.set_cons_zero, List.set_cons_succ]
      refine AnyH.one (i := 6) (by kernel_rfl) (by kernel_rfl) rfl HF (by rfl) (fun K hK => ?_)
      go_simp
      first | ((with_reducible refine And.intro ?hdep ?_); (case hdep => first | rfl | (intro h; cases h))) | skip
      refine callsIn_wide.2 ((pow_any w2 1103515245 t (by omega) (by have := H1.out; omega)).mono ?_)
      rintro e w ⟨rfl, h⟩; rw [h]; clear h w
      refine hK _ _ S0 ?_
      clear hK K
      try simp only [Act.put, List.setIfInBounds_toArray, List.set_cons_zero, List.set_cons_succ]
      refine AnyH.take (i := 7) (d := some 96) (v := ?_) (by kernel_rfl) rfl rfl HF (fun _ _ _ h => h) (.inl ⟨by rfl, ?_⟩) (by first | assumption | rfl) ?_
      rotate_left
      · intro w hS; try subst hS
        go_simp; try with_reducible rfl
      try simp only [Act.put, List.setIfInBounds_toArray, List.set_cons_zero, List.set_cons_succ]
      refine AnyH.take (i := 8) (d := some 2) (v := ?_) (by kernel_rfl) rfl rfl HF (fun _ _ _ h => h) (.inl ⟨by rfl, ?_⟩) (by first | assumption | rfl) ?_
      rotate_left
      · intro w hS; try subst hS
        go_simp; try with_reducible rfl
      try simp only [Act.put, List.setIfInBounds_toArray, List.set_cons_zero, List.set_cons_succ]
      refine AnyH.done (by kernel_rfl) ?_
      have B2 := Lib.hid (Below.after B1.out S0)
      clear S0 m0 m5
      gi_wp2_with fail
      go_wp2_with fail
      go_ret
      exact ⟨by simp [H4.out, bs], B2.out⟩
  · have nn : ((n : Int) == 0) = false := by simp; omega
    have gg := g2 (by omega)
    have hl0 : ((l : Int) == 0) = false := by simp; omega
    have i1 : ¬ ((h : Int) < 0) := by omega
    have i2 : ¬ ((h : Int) > (l : Int)) := by omega
    have i3 : ¬ ((t : Int) < 0) := by omega
    have i4 : ¬ ((t : Int) > (l : Int) - (h : Int)) := by omega
    have u1 : IntKind.i64.wrap ((l : Int) - (h : Int)) = (l : Int) - (h : Int) := by rw [IntKind.wrap_i64]; have := H1.out; omega
    have u2 : IntKind.i64.wrap ((l : Int) - (h : Int) - (t : Int)) = (l : Int) - (h : Int) - (t : Int) := by rw [IntKind.wrap_i64]; have := H1.out; omega
    have i5 : ¬ ((n : Int) > (l : Int) - (h : Int) - (t : Int)) := by omega
    by_cases hn1 : n = 1
    · have g4 := g3 hn1
      have e1 : ((n : Int) == 1) = true := by simp [hn1]
      have e2 : ((l : Int) - (h : Int) - (t : Int) != 1) = false := by simp; omega
      clear g1 g2 g3 gg g4 hn hn1
      go_wp2_with fail
      clear c0 c1 c2 c3 c4 c5 hW1
      refine wp_region_anyH (Below W1.heap.size W1) (by kernel_rfl) ?_
      have S0 : Below W1.heap.size W1 W1.drew := (Below.refl _ _).drew
      obtain ⟨w2, hw2⟩ : ∃ w, W1.drew = w := ⟨_, rfl⟩
      rw [hw2] at S0 ⊢
      clear hw2
      refine AnyH.take (i := 0) (d := some 89) (v := ?_) (by kernel_rfl) rfl rfl HF (fun _ _ _ h => h) (.inl ⟨by rfl, ?_⟩) (by first | assumption | rfl) ?_
      rotate_left
      · intro w hS; try subst hS
        go_simp; try with_reducible rfl
      try simp only [Act.put, List.setIfInBounds_toArray, List.set_cons_zero, List.set_cons_succ]
      refine AnyH.take (i := 1) (d := some 90) (v := ?_) (by kernel_rfl) rfl rfl HF (fun _ _ _ h => h) (.inl ⟨by rfl, ?_⟩) (by first | assumption | rfl) ?_
      rotate_left
      · intro w hS; try subst hS
        go_simp; try with_reducible rfl
      try simp only [Act.put, List.setIfInBounds_toArray, List.set_cons_zero, List.set_cons_succ]
      refine AnyH.take (i := 2) (d := some 91) (v := ?_) (by kernel_rfl) rfl rfl HF (fun _ _ _ h => h) (.inl ⟨by rfl, ?_⟩) (by first | assumption | rfl) ?_
      rotate_left
      · intro w hS; try subst hS
        go_simp; try with_reducible rfl
      try simp only [Act.put, List.setIfInBounds_toArray, List.set_cons_zero, List.set_cons_succ]
      refine AnyH.take (i := 3) (d := some 92) (v := ?_) (by kernel_rfl) rfl rfl HF (fun _ _ _ h => h) (.inl ⟨by rfl, ?_⟩) (by first | assumption | rfl) ?_
      rotate_left
      · intro w hS; try subst hS
        go_simp; try with_reducible rfl
      try simp only [Act.put, List.setIfInBounds_toArray, List.set_cons_zero, List.set_cons_succ]
      refine AnyH.take (i := 4) (d := some 93) (v := ?_) (by kernel_rfl) rfl rfl HF (fun _ _ _ h => h) (.inl ⟨by rfl, ?_⟩) (by first | assumption | rfl) ?_
      rotate_left
      · intro w hS; try subst hS
        go_simp; try with_reducible rfl
      try simp only [Act.put, List.setIfInBounds_toArray, List.set_cons_zero, List.set_cons_succ]
      refine AnyH.take (i := 5) (d := some 94) (v := ?_) (by kernel_rfl) rfl rfl HF (fun _ _ _ h => h) (.inl ⟨by rfl, ?_⟩) (by first | assumption | rfl) ?_
      rotate_left
      · intro w hS; try subst hS
        go_simp; try with_reducible rfl
      try simp only [Act.put, List.setIfInBounds_toArray, List.set_cons_zero, List.set_cons_succ]
      refine AnyH.one (i := 6) (by kernel_rfl) (by kernel_rfl) rfl HF (by rfl) (fun K hK => ?_)
      go_simp
      first | ((with_reducible refine And.intro ?hdep ?_); (case hdep => first | rfl | (intro h; cases h))) | skip
      refine callsIn_wide.2 ((pow_any w2 1103515245 l (by omega) (by have := H1.out; omega)).mono ?_)
      rintro e w ⟨rfl, h⟩; rw [h]; clear h w
      refine hK _ _ S0 ?_
      clear hK K
      try simp only [Act.put, List.setIfInBounds_toArray, List.set_cons_zero, List.set_cons_succ]
      refine AnyH.take (i := 7) (d := some 96) (v := ?_) (by kernel_rfl) rfl rfl HF (fun _ _ _ h => h) (.inl ⟨by rfl, ?_⟩) (by first | assumption | rfl) ?_
      rotate_left
      · intro w hS; try subst hS
        go_simp; try with_reducible rfl
      try simp only [Act.put, List.setIfInBounds_toArray, List.set_cons_zero, List.set_cons_succ]
      refine AnyH.take (i := 8) (d := some 2) (v := ?_) (by kernel_rfl) rfl rfl HF (fun _ _ _ h => h) (.inl ⟨by rfl, ?_⟩) (by first | assumption | rfl) ?_
      rotate_left
      · intro w hS; try subst hS
        go_simp; try with_reducible rfl
      try simp only [Act.put, List.setIfInBounds_toArray, List.set_cons_zero, List.set_cons_succ]
      refine AnyH.done (by kernel_rfl) ?_
      have B2 := Lib.hid (Below.after B1.out S0)
      clear S0 m0 m5
      gi_wp2_with fail
      go_wp2_with fail
      go_ret
      exact ⟨by simp [H4.out, bs], B2.out⟩
    · have e1 : ((n : Int) == 1) = false := by simp; omega
      clear g1 g2 g3 gg hn hn1
      go_wp2_with fail
      clear c0 c1 c2 c3 c4 c5 hW1
      refine wp_region_anyH (Below W1.heap.size W1) (by kernel_rfl) ?_
      have S0 : Below W1.heap.size W1 W1.drew := (Below.refl _ _).drew
      obtain ⟨w2, hw2⟩ : ∃ w, W1.drew = w := ⟨_, rfl⟩
      rw [hw2] at S0 ⊢
      clear hw2
      refine AnyH.take (i := 0) (d := some 89) (v := ?_) (by kernel_rfl) rfl rfl HF (fun _ _ _ h => h) (.inl ⟨by rfl, ?_⟩) (by first | assumption | rfl) ?_
      rotate_left
      · intro w hS; try subst hS
        go_simp; try with_reducible rfl
      try simp only [Act.put, List.setIfInBounds_toArray, List.set_cons_zero, List.set_cons_succ]
      refine AnyH.take (i := 1) (d := some 90) (v := ?_) (by kernel_rfl) rfl rfl HF (fun _ _ _ h => h) (.inl ⟨by rfl, ?_⟩) (by first | assumption | rfl) ?_
      rotate_left
      · intro w hS; try subst hS
        go_simp; try with_reducible rfl
      try simp only [Act.put, List.setIfInBounds_toArray, List.set_cons_zero, List.set_cons_succ]
      refine AnyH.take (i := 2) (d := some 91) (v := ?_) (by kernel_rfl) rfl rfl HF (fun _ _ _ h => h) (.inl ⟨by rfl, ?_⟩) (by first | assumption | rfl) ?_
      rotate_left
      · intro w hS; try subst hS
        go_simp; try with_reducible rfl
      try simp only [Act.put, List.setIfInBounds_toArray, List.set_cons_zero, List.set_cons_succ]
      refine AnyH.take (i := 3) (d := some 92) (v := ?_) (by kernel_rfl) rfl rfl HF (fun _ _ _ h => h) (.inl ⟨by rfl, ?_⟩) (by first | assumption | rfl) ?_
      rotate_left
      · intro w hS; try subst hS
        go_simp; try with_reducible rfl
      try simp only [Act.put, List.setIfInBounds_toArray, List.set_cons_zero, List.set_cons_succ]
      refine AnyH.take (i := 4) (d := some 93) (v := ?_) (by kernel_rfl) rfl rfl HF (fun _ _ _ h => h) (.inl ⟨by rfl, ?_⟩) (by first | assumption | rfl) ?_
      rotate_left
      · intro w hS; try subst hS
        go_simp; try with_reducible rfl
      try simp only [Act.put, List.setIfInBounds_toArray, List.set_cons_zero, List.set_cons_succ]
      refine AnyH.take (i := 5) (d := some 94) (v := ?_) (by kernel_rfl) rfl rfl HF (fun _ _ _ h => h) (.inl ⟨by rfl, ?_⟩) (by first | assumption | rfl) ?_
      rotate_left
      · intro w hS; try subst hS
        go_simp; try with_reducible rfl
      try simp only [Act.put, List.setIfInBounds_toArray, List.set_cons_zero, List.set_cons_succ]
      refine AnyH.one (i := 6) (by kernel_rfl) (by kernel_rfl) rfl HF (by rfl) (fun K hK => ?_)
      go_simp
      first | ((with_reducible refine And.intro ?hdep ?_); (case hdep => first | rfl | (intro h; cases h))) | skip
      refine callsIn_wide.2 ((pow_any w2 1103515245 l (by omega) (by have := H1.out; omega)).mono ?_)
      rintro e w ⟨rfl, h⟩; rw [h]; clear h w
      refine hK _ _ S0 ?_
      clear hK K
      try simp only [Act.put, List.setIfInBounds_toArray, List.set_cons_zero, List.set_cons_succ]
      refine AnyH.take (i := 7) (d := some 96) (v := ?_) (by kernel_rfl) rfl rfl HF (fun _ _ _ h => h) (.inl ⟨by rfl, ?_⟩) (by first | assumption | rfl) ?_
      rotate_left
      · intro w hS; try subst hS
        go_simp; try with_reducible rfl
      try simp only [Act.put, List.setIfInBounds_toArray, List.set_cons_zero, List.set_cons_succ]
      refine AnyH.take (i := 8) (d := some 2) (v := ?_) (by kernel_rfl) rfl rfl HF (fun _ _ _ h => h) (.inl ⟨by rfl, ?_⟩) (by first | assumption | rfl) ?_
      rotate_left
      · intro w hS; try subst hS
        go_simp; try with_reducible rfl
      try simp only [Act.put, List.setIfInBounds_toArray, List.set_cons_zero, List.set_cons_succ]
      refine AnyH.done (by kernel_rfl) ?_
      have B2 := Lib.hid (Below.after B1.out S0)
      clear S0 m0 m5
      gi_wp2_with fail
      go_wp2_with fail
      go_ret
      exact ⟨by simp [H4.out, bs], B2.out⟩
end M
end Go.Proofs.Ytplccefjljdjnaa
namespace Go.Proofs.Ytplccefjljdjnaa
open Go.RowKit Go.Lib
namespace M
attribute [local go_sem] Oper.semAt_some
/-- A box for a weight, made since. -/
def BoxW (n0 : Nat) (v : Value) (w : World) : Prop := ∃ B, v = .pointer (some ⟨B, 0, none⟩) ∧ n0 ≤ B ∧ WtC w B w0
def PPj (n0 : Nat) (v1 v2 : Value) (j : Nat) (v : Value) (w : World) : Prop := match j with
  | 14 => v = v1
  | 15 => v = v2
  | 16 => BoxW n0 v w
  | _ => True
theorem PPj.mono {n0 : Nat} {v1 v2 : Value} (j : Nat) (v : Value) (w w' : World) (h : PPj n0 v1 v2 j v w) (hb : Below w.heap.size w w') : PPj n0 v1 v2 j v w' := by
  unfold PPj at *
  split
  · exact h
  · exact h
  · obtain ⟨B, h1, h2, h3⟩ := h
    exact ⟨B, h1, h2, below_block hb h3⟩
  · trivial
theorem WtC.set2 {W : World} {g : Nat} {w : Wt} (h : WtC W g w) (x : Nat) : WtC (W.setCell ⟨g, 2, none⟩ (.int .i64 x)) g { w with head := x } := by
  unfold WtC at h ⊢
  exact heap_set0 _ h
theorem WtC.set3 {W : World} {g : Nat} {w : Wt} (h : WtC W g w) (x : Nat) : WtC (W.setCell ⟨g, 3, none⟩ (.int .i64 x)) g { w with tail := x } := by
  unfold WtC at h ⊢
  exact heap_set0 _ h
theorem joinW_len (a b : Wt) : (joinW a b).len = a.len + b.len := rfl
set_option maxRecDepth 100000 in
set_option maxHeartbeats 4000000 in
theorem wjoin_any (W : World) {a b : Wt} (ha : WtOk a) (hb : WtOk b) (hl : a.len + b.len ≤ 1152921504606846976) :
    Calls Try.prog 88 #[wtV a, wtV b] W fun e w' => e = .returned (.tuple #[wtV (joinW a b), .nilIface]) ∧ Below W.heap.size W w' := by
  have HF : ∀ f, Fence.wide.fn f := fun _ => trivial
  obtain ⟨W1, hW1⟩ : ∃ w, ((W.alloc (.cells #[.int .i64 a.len, .int .i64 a.lines, .int .i64 a.head, .int .i64 a.tail, .int .u64 a.d.v, .int .u64 a.d.s] 118)).alloc (.cells #[.int .i64 b.len, .int .i64 b.lines, .int .i64 b.head, .int .i64 b.tail, .int .u64 b.d.v, .int .u64 b.d.s] 118)).alloc (.cells #[.int .i64 0, .int .i64 0, .int .i64 0, .int .i64 0, .int .u64 0, .int .u64 0] 118) = w := ⟨_, rfl⟩
  have k1 : WtC W1 W.heap.size a := by
    rw [← hW1]
    exact below_block ((Below.refl _ _).alloc (Nat.le_refl _) _) (below_block ((Below.refl _ _).alloc (Nat.le_refl _) _) (heap_new' W _))
  have k2 : WtC W1 (W.heap.size + 1) b := by
    rw [← hW1]
    have := heap_new' (W.alloc (.cells #[.int .i64 a.len, .int .i64 a.lines, .int .i64 a.head, .int .i64 a.tail, .int .u64 a.d.v, .int .u64 a.d.s] 118)) (.cells #[.int .i64 b.len, .int .i64 b.lines, .int .i64 b.head, .int .i64 b.tail, .int .u64 b.d.v, .int .u64 b.d.s] 118)
    rw [World.size_alloc] at this
    exact below_block ((Below.refl _ _).alloc (Nat.le_refl _) _) this
  have k3 : WtC W1 (W.heap.size + 1 + 1) w0 := by
    rw [← hW1]
    have := heap_new' ((W.alloc (.cells #[.int .i64 a.len, .int .i64 a.lines, .int .i64 a.head, .int .i64 a.tail, .int .u64 a.d.v, .int .u64 a.d.s] 118)).alloc (.cells #[.int .i64 b.len, .int .i64 b.lines, .int .i64 b.head, .int .i64 b.tail, .int .u64 b.d.v, .int .u64 b.d.s] 118)) (.cells #[.int .i64 0, .int .i64 0, .int .i64 0, .int .i64 0, .int .u64 0, .int .u64 0] 118)
    simp only [World.size_alloc] at this
    exact this
  have b1 : Below W.heap.size W W1 := by
    rw [← hW1]
    exact (((Below.refl _ W).alloc (Nat.le_refl _) _).alloc (by simp) _).alloc (by simp only [World.size_alloc]; omega) _
  have hsz : W.heap.size + 1 + 1 < W1.heap.size := (Array.getElem?_eq_some_iff.1 k3).1
  have K1 := Lib.hid k1; have K2 := Lib.hid k2; have K3 := Lib.hid k3; have B1 := Lib.hid b1; have HZ := Lib.hid hsz
  have HA := Lib.hid ha; have HB := Lib.hid hb; have HL := Lib.hid hl
  obtain ⟨a0, a1, a2, a3, a4, a5⟩ := k1.cells
  obtain ⟨e0, e1, e2, e3, e4, e5⟩ := k2.cells
  clear k1 k2 k3 b1 ha hb hl hsz
  unfold wtV
  go_enter Try.func88, Try.ntmps88
  go_wp2_with fail
  refine (wvalid_any W1 HA.out).mono ?_; rintro e w2 ⟨rfl, b2⟩
  have B2 := Lib.hid b2
  have k2 := below_block b2 K2.out
  obtain ⟨e0, e1, e2, e3, e4, e5⟩ := WtC.cells k2
  clear b2 k2 hW1
  go_wp2_with fail
  refine (wvalid_any w2 HB.out).mono ?_; rintro e w3 ⟨rfl, b3⟩
  have B3 := Lib.hid (Below.after B2.out b3)
  have k1 := below_block B3.out K1.out
  have k2 := below_block B3.out K2.out
  obtain ⟨a0, a1, a2, a3, a4, a5⟩ := WtC.cells k1
  obtain ⟨e0, e1, e2, e3, e4, e5⟩ := WtC.cells k2
  clear b3 k1 k2
  go_wp2_with fail
  refine (add1_any w3 (by have := HA.out.le; omega) (by have := HB.out.le; omega)).mono ?_; rintro e w4 ⟨rfl, h⟩
  rw [if_pos HL.out, h]
  clear h w4
  obtain ⟨n, hn⟩ : ∃ n, a.len + b.len = n := ⟨_, rfl⟩
  have HN := Lib.hid hn
  rw [hn]
  clear hn
  go_wp2_with fail
  have m : ∀ w, Below w3.heap.size w3 w → WtC w W.heap.size a ∧ WtC w (W.heap.size + 1) b := fun w h => ⟨below_block (Below.after B3.out h) K1.out, below_block (Below.after B3.out h) K2.out⟩
  have ma1 : ∀ w, Below w3.heap.size w3 w → w.cell? ⟨W.heap.size, 1, none⟩ = some (.int .i64 a.lines) := fun w h => ((m w h).1.cells).2.1
  have ma2 : ∀ w, Below w3.heap.size w3 w → w.cell? ⟨W.heap.size, 2, none⟩ = some (.int .i64 a.head) := fun w h => ((m w h).1.cells).2.2.1
  have ma4 : ∀ w, Below w3.heap.size w3 w → w.cell? ⟨W.heap.size, 4, none⟩ = some (.int .u64 a.d.v) := fun w h => ((m w h).1.cells).2.2.2.2.1
  have ma5 : ∀ w, Below w3.heap.size w3 w → w.cell? ⟨W.heap.size, 5, none⟩ = some (.int .u64 a.d.s) := fun w h => ((m w h).1.cells).2.2.2.2.2
  have mb1 : ∀ w, Below w3.heap.size w3 w → w.cell? ⟨W.heap.size + 1, 1, none⟩ = some (.int .i64 b.lines) := fun w h => ((m w h).2.cells).2.1
  have mb3 : ∀ w, Below w3.heap.size w3 w → w.cell? ⟨W.heap.size + 1, 3, none⟩ = some (.int .i64 b.tail) := fun w h => ((m w h).2.cells).2.2.2.1
  have mb4 : ∀ w, Below w3.heap.size w3 w → w.cell? ⟨W.heap.size + 1, 4, none⟩ = some (.int .u64 b.d.v) := fun w h => ((m w h).2.cells).2.2.2.2.1
  have mb5 : ∀ w, Below w3.heap.size w3 w → w.cell? ⟨W.heap.size + 1, 5, none⟩ = some (.int .u64 b.d.s) := fun w h => ((m w h).2.cells).2.2.2.2.2
  obtain ⟨l, hl⟩ : ∃ l, a.lines + b.lines = l := ⟨_, rfl⟩
  obtain ⟨j, hj⟩ : ∃ j, joinD a.d b.d = j := ⟨_, rfl⟩
  have HLL := Lib.hid hl; have HJ := Lib.hid hj
  have hwl : IntKind.i64.wrap ((a.lines : Int) + (b.lines : Int)) = (l : Int) := by
    have g1 := HA.out.good; have g2 := HB.out.good
    have l1 : a.lines ≤ a.len := by rcases Nat.eq_zero_or_pos a.lines with h | h; omega; have := g1.some h; omega
    have l2 : b.lines ≤ b.len := by rcases Nat.eq_zero_or_pos b.lines with h | h; omega; have := g2.some h; omega
    have := HL.out
    rw [IntKind.wrap_i64]; omega
  clear hl hj m a0 a1 a2 a3 a4 a5 e0 e1 e2 e3 e4 e5
  refine wp_region_anyH (Below w3.heap.size w3) (by kernel_rfl) ?_
  have S0 : Below w3.heap.size w3 w3.drew := (Below.refl _ _).drew
  refine AnyH.take (i := 0) (d := some 31) (v := ?_) (by kernel_rfl) rfl rfl HF (fun _ _ _ h => h) (.inl ⟨by rfl, ?_⟩) (by first | assumption | rfl) ?_
  rotate_left
  · intro w hS; try subst hS
    go_simp; try with_reducible rfl
  try simp only [Act.put, List.setIfInBounds_toArray, List.set_cons_zero, List.set_cons_succ]
  refine AnyH.take (i := 1) (d := some 32) (v := ?_) (by kernel_rfl) rfl rfl HF (fun _ _ _ h => h) (.inl ⟨by rfl, ?_⟩) (by first | assumption | rfl) ?_
  rotate_left
  · intro w hS; try subst hS
    go_simp; try with_reducible rfl
  try simp only [Act.put, List.setIfInBounds_toArray, List.set_cons_zero, List.set_cons_succ]
  refine AnyH.take (i := 2) (d := some 33) (v := ?_) (by kernel_rfl) rfl rfl HF (fun _ _ _ h => h) (.inl ⟨by rfl, ?_⟩) (by first | assumption | rfl) ?_
  rotate_left
  · intro w hS; try subst hS
    go_simp; try with_reducible rfl
  try simp only [Act.put, List.setIfInBounds_toArray, List.set_cons_zero, List.set_cons_succ]
  refine AnyH.take (i := 3) (d := some 34) (v := ?_) (by kernel_rfl) rfl rfl HF (fun _ _ _ h => h) (.inl ⟨by rfl, ?_⟩) (by first | assumption | rfl) ?_
  rotate_left
  · intro w hS; try subst hS
    go_simp; try with_reducible rfl
  try simp only [Act.put, List.setIfInBounds_toArray, List.set_cons_zero, List.set_cons_succ]
  refine AnyH.take (i := 4) (d := some 35) (v := ?_) (by kernel_rfl) rfl rfl HF (fun _ _ _ h => h) (.inl ⟨by rfl, ?_⟩) (by first | assumption | rfl) ?_
  rotate_left
  · intro w hS; try subst hS
    go_simp; try with_reducible rfl
  try simp only [Act.put, List.setIfInBounds_toArray, List.set_cons_zero, List.set_cons_succ]
  refine AnyH.take (i := 5) (d := some 36) (v := ?_) (by kernel_rfl) rfl rfl HF (fun _ _ _ h => h) (.inl ⟨by rfl, ?_⟩) (by first | assumption | rfl) ?_
  rotate_left
  · intro w hS; try subst hS
    go_simp; try with_reducible rfl
  try simp only [Act.put, List.setIfInBounds_toArray, List.set_cons_zero, List.set_cons_succ]
  refine AnyH.take (i := 6) (d := some 37) (v := ?_) (by kernel_rfl) rfl rfl HF (fun _ _ _ h => h) (.inl ⟨by rfl, ?_⟩) (by first | assumption | rfl) ?_
  rotate_left
  · intro w hS; try subst hS
    go_simp; try with_reducible rfl
  try simp only [Act.put, List.setIfInBounds_toArray, List.set_cons_zero, List.set_cons_succ]
  refine AnyH.take (i := 7) (d := some 38) (v := ?_) (by kernel_rfl) rfl rfl HF (fun _ _ _ h => h) (.inl ⟨by rfl, ?_⟩) (by first | assumption | rfl) ?_
  rotate_left
  · intro w hS; try subst hS
    go_simp; try with_reducible rfl
  try simp only [Act.put, List.setIfInBounds_toArray, List.set_cons_zero, List.set_cons_succ]
  refine AnyH.take (i := 8) (d := some 39) (v := ?_) (by kernel_rfl) rfl rfl HF (fun _ _ _ h => h) (.inl ⟨by rfl, ?_⟩) (by first | assumption | rfl) ?_
  rotate_left
  · intro w hS; try subst hS
    go_simp; try with_reducible rfl
  try simp only [Act.put, List.setIfInBounds_toArray, List.set_cons_zero, List.set_cons_succ]
  refine AnyH.take (i := 9) (d := some 40) (v := ?_) (by kernel_rfl) rfl rfl HF (fun _ _ _ h => h) (.inl ⟨by rfl, ?_⟩) (by first | assumption | rfl) ?_
  rotate_left
  · intro w hS; try subst hS
    go_simp; try with_reducible rfl
  try simp only [Act.put, List.setIfInBounds_toArray, List.set_cons_zero, List.set_cons_succ]
  refine AnyH.take (i := 10) (d := some 41) (v := ?_) (by kernel_rfl) rfl rfl HF (fun _ _ _ h => h) (.inl ⟨by rfl, ?_⟩) (by first | assumption | rfl) ?_
  rotate_left
  · intro w hS; try subst hS
    go_simp; try with_reducible rfl
  try simp only [Act.put, List.setIfInBounds_toArray, List.set_cons_zero, List.set_cons_succ]
  refine AnyH.take (i := 11) (d := some 42) (v := ?_) (by kernel_rfl) rfl rfl HF (fun _ _ _ h => h) (.inl ⟨by rfl, ?_⟩) (by first | assumption | rfl) ?_
  rotate_left
  · intro w hS; try subst hS
    go_simp; try with_reducible rfl
  try simp only [Act.put, List.setIfInBounds_toArray, List.set_cons_zero, List.set_cons_succ]
  refine AnyH.take (i := 12) (d := some 43) (v := ?_) (by kernel_rfl) rfl rfl HF (fun _ _ _ h => h) (.inl ⟨by rfl, ?_⟩) (by first | assumption | rfl) ?_
  rotate_left
  · intro w hS; try subst hS
    go_simp; try with_reducible rfl
  try simp only [Act.put, List.setIfInBounds_toArray, List.set_cons_zero, List.set_cons_succ]
  refine AnyH.take (i := 13) (d := some 44) (v := ?_) (by kernel_rfl) rfl rfl HF (fun _ _ _ h => h) (.inl ⟨by rfl, ?_⟩) (by first | assumption | rfl) ?_
  rotate_left
  · intro w hS; try subst hS
    go_simp; try with_reducible rfl
  try simp only [Act.put, List.setIfInBounds_toArray, List.set_cons_zero, List.set_cons_succ]
  clear ma1 ma2 ma4 ma5 mb1 mb3 mb4 mb5
  refine AnyH.floatL [14, 15, 16] 17 (fun x => match x with | 15 => [14] | _ => []) (fun x => match x with | 14 => 45 | 15 => 46 | _ => 8) (PPj w3.heap.size (dgV j) (.agg #[.int .i64 n, .int .i64 l, .int .i64 a.head, .int .i64 b.tail, .int .u64 j.v, .int .u64 j.s])) (fun x => x == 16) (by kernel_rfl) (by kernel_rfl) (Nat.le_of_ble_eq_true (by kernel_rfl)) HF S0 (fun x _ v w w' h hb => PPj.mono x v w w' h hb) ?box ?step ?tail
  case box =>
    intro x hx hal v w h
    simp only [List.mem_cons, List.not_mem_nil, or_false] at hx
    rcases hx with rfl | rfl | rfl
    · cases hal
    · cases hal
    · obtain ⟨B, h1, h2, h3⟩ := h; exact ⟨B, h1, (Array.getElem?_eq_some_iff.1 h3).1⟩
  case step =>
    intro x hx vs w hS hP K hK
    simp only [List.mem_cons, List.not_mem_nil, or_false] at hx
    rcases hx with rfl | rfl | rfl
    · refine StepIn.mk rfl (by rfl) ?_
      simp only [putL, List.foldl_nil, List.foldl_cons, Act.put, List.setIfInBounds_toArray, List.set_cons_zero, List.set_cons_succ] at hK ⊢
      go_simp
      refine ⟨rfl, callsIn_wide.2 ((djoin_any w HA.out.dok HB.out.dok).mono ?_)⟩
      rintro e w4 ⟨rfl, b4⟩
      rw [HJ.out]
      exact hK _ _ (Below.after hS b4) b4 rfl (fun h => absurd h (by decide))
    · have h14 : vs 14 = dgV j := hP 14 (by simp)
      refine StepIn.mk rfl (by rfl) ?_
      simp only [putL, List.foldl_nil, List.foldl_cons, h14, Act.put, List.setIfInBounds_toArray, List.set_cons_zero, List.set_cons_succ] at hK ⊢
      unfold dgV at hK ⊢
      go_simp
      exact hK _ _ hS (Below.refl _ _) rfl (fun h => absurd h (by decide))
    · refine StepIn.mk rfl (by rfl) ?_
      simp only [putL, List.foldl_nil, List.foldl_cons, Act.put, List.setIfInBounds_toArray, List.set_cons_zero, List.set_cons_succ] at hK ⊢
      go_simp
      exact hK _ _ (hS.alloc hS.size _) ((Below.refl _ _).alloc (Nat.le_refl _) _) ⟨_, rfl, hS.size, heap_new' _ _⟩ (fun _ => rfl)
  case tail =>
    intro vs w hS hP hD
    have h14 : vs 14 = dgV j := hP 14 (by simp)
    have h15 : vs 15 = _ := hP 15 (by simp)
    obtain ⟨B, e16, lB, nB⟩ : BoxW w3.heap.size (vs 16) w := hP 16 (by simp)
    clear hP hD
    simp only [putL, List.foldl_nil, List.foldl_cons, h14, h15, e16, Act.put, List.setIfInBounds_toArray, List.set_cons_zero, List.set_cons_succ, List.drop_succ_cons, List.drop_zero]
    clear h14 h15 e16 vs
    obtain ⟨x0, x1, x2, x3, x4, x5⟩ := nB.cells
    have f0 := nB.free 0; have f1 := nB.free 1; have f2 := nB.free 2; have f3 := nB.free 3; have f4 := nB.free 4; have f5 := nB.free 5
    have K4 := Lib.hid (nB.set ⟨n, l, a.head, b.tail, j⟩)
    have B4 := Lib.hid (setW_below hS lB ⟨n, l, a.head, b.tail, j⟩)
    obtain ⟨w4, hw4⟩ : ∃ w', setW w B ⟨n, l, a.head, b.tail, j⟩ = w' := ⟨_, rfl⟩
    rw [hw4] at K4 B4
    simp only [setW] at hw4
    have HLB := Lib.hid lB
    simp only [w0] at x0 x1 x2 x3 x4 x5
    have bw4 : Below w3.heap.size w3 w4 := B4.out
    have kw4 : WtC w4 B ⟨n, l, a.head, b.tail, j⟩ := K4.out
    have hB1 : W.heap.size + 1 + 1 < B := by have := HZ.out; have := B3.out.size; omega
    have qa := below_block (Below.after B3.out bw4) K1.out
    have qb := below_block (Below.after B3.out bw4) K2.out
    have QA := Lib.hid qa; have QB := Lib.hid qb; have HB1 := Lib.hid hB1
    obtain ⟨a0, a1, a2, a3, a4, a5⟩ := WtC.cells qa
    obtain ⟨e0, e1, e2, e3, e4, e5⟩ := WtC.cells qb
    have g2 := kw4.free 2; have g3 := kw4.free 3
    obtain ⟨y0, y1, y2, y3, y4, y5⟩ := kw4.cells
    clear qa qb bw4 kw4 lB hB1 nB S0 hS hwl
    by_cases h1 : a.lines = 0
    · have z1 : ((a.lines : Int) == 0) = true := by simp [h1]
      have u1 : IntKind.i64.wrap ((a.len : Int) + (b.head : Int)) = ((a.len + b.head : Nat) : Int) := by
        have l1 : b.head ≤ b.len := by rcases Nat.eq_zero_or_pos b.lines with h | h; have := HB.out.good.none h; omega; have := HB.out.good.some h; omega
        have := HL.out
        rw [IntKind.wrap_i64]; omega
      obtain ⟨x, hx⟩ : ∃ x, a.len + b.head = x := ⟨_, rfl⟩
      rw [hx] at u1
      obtain ⟨w5, hw5⟩ : ∃ w, w4.setCell ⟨B, 2, none⟩ (.int .i64 x) = w := ⟨_, rfl⟩
      have K5 : Hid (WtC w5 B ⟨n, l, x, b.tail, j⟩) := Lib.hid (by rw [← hw5]; exact K4.out.set2 x)
      have B5 : Hid (Below w3.heap.size w3 w5) := Lib.hid (by rw [← hw5]; exact B4.out.setCell (p := ⟨B, 2, none⟩) HLB.out _)
      have k5 := K5.out
      obtain ⟨y0, y1, y2, y3, y4, y5⟩ := k5.cells
      have g3 := k5.free 3
      have qa := below_block (Below.after B3.out B5.out) K1.out
      have qb := below_block (Below.after B3.out B5.out) K2.out
      obtain ⟨a0, a1, a2, a3, a4, a5⟩ := WtC.cells qa
      obtain ⟨e0, e1, e2, e3, e4, e5⟩ := WtC.cells qb
      clear k5 qa qb
      by_cases h2 : b.lines = 0
      · have z2 : ((b.lines : Int) == 0) = true := by simp [h2]
        have u2 : IntKind.i64.wrap ((b.len : Int) + (a.tail : Int)) = ((b.len + a.tail : Nat) : Int) := by
          have l1 : a.tail ≤ a.len := by rcases Nat.eq_zero_or_pos a.lines with h | h; have := HA.out.good.none h; omega; have := HA.out.good.some h; omega
          have := HL.out
          rw [IntKind.wrap_i64]; omega
        obtain ⟨y, hy⟩ : ∃ x, b.len + a.tail = x := ⟨_, rfl⟩
        rw [hy] at u2
        obtain ⟨w6, hw6⟩ : ∃ w, w5.setCell ⟨B, 3, none⟩ (.int .i64 y) = w := ⟨_, rfl⟩
        have K6 : Hid (WtC w6 B ⟨n, l, x, y, j⟩) := Lib.hid (by rw [← hw6]; exact K5.out.set3 y)
        have B6 : Hid (Below w3.heap.size w3 w6) := Lib.hid (by rw [← hw6]; exact B5.out.setCell (p := ⟨B, 3, none⟩) HLB.out _)
        have k6 := K6.out
        obtain ⟨y0, y1, y2, y3, y4, y5⟩ := k6.cells
        clear k6
        have HX : Hid (joinW a b = ⟨n, l, x, y, j⟩) := Lib.hid (by unfold joinW; rw [HN.out, HLL.out, HJ.out, if_pos h1, hx, if_pos h2, hy])
        have k0 : WtC w6 (W.heap.size + 1 + 1) w0 := below_block (Below.after B3.out B6.out) K3.out
        obtain ⟨r0, r1, r2, r3, r4, r5⟩ := k0.cells
        have t0 := k0.free 0; have t1 := k0.free 1; have t2 := k0.free 2; have t3 := k0.free 3; have t4 := k0.free 4; have t5 := k0.free 5
        simp only [w0] at r0 r1 r2 r3 r4 r5
        have KF := Lib.hid (k0.set ⟨n, l, x, y, j⟩)
        have BF := Lib.hid (setW_below (Below.after B1.out (Below.after B3.out B6.out)) (g := W.heap.size + 1 + 1) (by omega) ⟨n, l, x, y, j⟩)
        obtain ⟨w9, hw9⟩ : ∃ w', setW w6 (W.heap.size + 1 + 1) ⟨n, l, x, y, j⟩ = w' := ⟨_, rfl⟩
        rw [hw9] at KF BF
        simp only [setW] at hw9
        clear k0 h1 h2
        gi_wp2_with fail
        go_wp2_with fail
        obtain ⟨c0, c1, c2, c3, c4, c5⟩ := KF.out.cells
        exact bodyPost_ret (v := .tuple #[.agg #[.int .i64 n, .int .i64 l, .int .i64 x, .int .i64 y, .int .u64 j.v, .int .u64 j.s], .nilIface]) (by simp [results, Try.results88, go_sem, c0, c1, c2, c3, c4, c5]) rfl ⟨by rw [HX.out], BF.out⟩
      · have z2 : ((b.lines : Int) == 0) = false := by simp; omega
        have HX : Hid (joinW a b = ⟨n, l, x, b.tail, j⟩) := Lib.hid (by unfold joinW; rw [HN.out, HLL.out, HJ.out, if_pos h1, hx, if_neg h2])
        have k0 : WtC w5 (W.heap.size + 1 + 1) w0 := below_block (Below.after B3.out B5.out) K3.out
        obtain ⟨r0, r1, r2, r3, r4, r5⟩ := k0.cells
        have t0 := k0.free 0; have t1 := k0.free 1; have t2 := k0.free 2; have t3 := k0.free 3; have t4 := k0.free 4; have t5 := k0.free 5
        simp only [w0] at r0 r1 r2 r3 r4 r5
        have KF := Lib.hid (k0.set ⟨n, l, x, b.tail, j⟩)
        have BF := Lib.hid (setW_below (Below.after B1.out (Below.after B3.out B5.out)) (g := W.heap.size + 1 + 1) (by omega) ⟨n, l, x, b.tail, j⟩)
        obtain ⟨w9, hw9⟩ : ∃ w', setW w5 (W.heap.size + 1 + 1) ⟨n, l, x, b.tail, j⟩ = w' := ⟨_, rfl⟩
        rw [hw9] at KF BF
        simp only [setW] at hw9
        clear k0 h1 h2
        gi_wp2_with fail
        go_wp2_with fail
        obtain ⟨c0, c1, c2, c3, c4, c5⟩ := KF.out.cells
        exact bodyPost_ret (v := .tuple #[.agg #[.int .i64 n, .int .i64 l, .int .i64 x, .int .i64 b.tail, .int .u64 j.v, .int .u64 j.s], .nilIface]) (by simp [results, Try.results88, go_sem, c0, c1, c2, c3, c4, c5]) rfl ⟨by rw [HX.out], BF.out⟩
    · have z1 : ((a.lines : Int) == 0) = false := by simp; omega
      have K5 := K4; have B5 := B4
      obtain ⟨w5, hw5⟩ : ∃ w, w4 = w := ⟨_, rfl⟩
      subst hw5
      by_cases h2 : b.lines = 0
      · have z2 : ((b.lines : Int) == 0) = true := by simp [h2]
        have u2 : IntKind.i64.wrap ((b.len : Int) + (a.tail : Int)) = ((b.len + a.tail : Nat) : Int) := by
          have l1 : a.tail ≤ a.len := by rcases Nat.eq_zero_or_pos a.lines with h | h; have := HA.out.good.none h; omega; have := HA.out.good.some h; omega
          have := HL.out
          rw [IntKind.wrap_i64]; omega
        obtain ⟨y, hy⟩ : ∃ x, b.len + a.tail = x := ⟨_, rfl⟩
        rw [hy] at u2
        obtain ⟨w6, hw6⟩ : ∃ w, w4.setCell ⟨B, 3, none⟩ (.int .i64 y) = w := ⟨_, rfl⟩
        have K6 : Hid (WtC w6 B ⟨n, l, a.head, y, j⟩) := Lib.hid (by rw [← hw6]; exact K5.out.set3 y)
        have B6 : Hid (Below w3.heap.size w3 w6) := Lib.hid (by rw [← hw6]; exact B5.out.setCell (p := ⟨B, 3, none⟩) HLB.out _)
        have k6 := K6.out
        obtain ⟨y0, y1, y2, y3, y4, y5⟩ := k6.cells
        clear k6
        have HX : Hid (joinW a b = ⟨n, l, a.head, y, j⟩) := Lib.hid (by unfold joinW; rw [HN.out, HLL.out, HJ.out, if_neg h1, if_pos h2, hy])
        have k0 : WtC w6 (W.heap.size + 1 + 1) w0 := below_block (Below.after B3.out B6.out) K3.out
        obtain ⟨r0, r1, r2, r3, r4, r5⟩ := k0.cells
        have t0 := k0.free 0; have t1 := k0.free 1; have t2 := k0.free 2; have t3 := k0.free 3; have t4 := k0.free 4; have t5 := k0.free 5
        simp only [w0] at r0 r1 r2 r3 r4 r5
        have KF := Lib.hid (k0.set ⟨n, l, a.head, y, j⟩)
        have BF := Lib.hid (setW_below (Below.after B1.out (Below.after B3.out B6.out)) (g := W.heap.size + 1 + 1) (by omega) ⟨n, l, a.head, y, j⟩)
        obtain ⟨w9, hw9⟩ : ∃ w', setW w6 (W.heap.size + 1 + 1) ⟨n, l, a.head, y, j⟩ = w' := ⟨_, rfl⟩
        rw [hw9] at KF BF
        simp only [setW] at hw9
        clear k0 h1 h2
        gi_wp2_with fail
        go_wp2_with fail
        obtain ⟨c0, c1, c2, c3, c4, c5⟩ := KF.out.cells
        exact bodyPost_ret (v := .tuple #[.agg #[.int .i64 n, .int .i64 l, .int .i64 a.head, .int .i64 y, .int .u64 j.v, .int .u64 j.s], .nilIface]) (by simp [results, Try.results88, go_sem, c0, c1, c2, c3, c4, c5]) rfl ⟨by rw [HX.out], BF.out⟩
      · have z2 : ((b.lines : Int) == 0) = false := by simp; omega
        have HX : Hid (joinW a b = ⟨n, l, a.head, b.tail, j⟩) := Lib.hid (by unfold joinW; rw [HN.out, HLL.out, HJ.out, if_neg h1, if_neg h2])
        have k0 : WtC w4 (W.heap.size + 1 + 1) w0 := below_block (Below.after B3.out B4.out) K3.out
        obtain ⟨r0, r1, r2, r3, r4, r5⟩ := k0.cells
        have t0 := k0.free 0; have t1 := k0.free 1; have t2 := k0.free 2; have t3 := k0.free 3; have t4 := k0.free 4; have t5 := k0.free 5
        simp only [w0] at r0 r1 r2 r3 r4 r5
        have KF := Lib.hid (k0.set ⟨n, l, a.head, b.tail, j⟩)
        have BF := Lib.hid (setW_below (Below.after B1.out (Below.after B3.out B4.out)) (g := W.heap.size + 1 + 1) (by omega) ⟨n, l, a.head, b.tail, j⟩)
        obtain ⟨w9, hw9⟩ : ∃ w', setW w4 (W.heap.size + 1 + 1) ⟨n, l, a.head, b.tail, j⟩ = w' := ⟨_, rfl⟩
        rw [hw9] at KF BF
        simp only [setW] at hw9
        clear k0 h1 h2
        gi_wp2_with fail
        go_wp2_with fail
        obtain ⟨c0, c1, c2, c3, c4, c5⟩ := KF.out.cells
        exact bodyPost_ret (v := .tuple #[.agg #[.int .i64 n, .int .i64 l, .int .i64 a.head, .int .i64 b.tail, .int .u64 j.v, .int .u64 j.s], .nilIface]) (by simp [results, Try.results88, go_sem, c0, c1, c2, c3, c4, c5]) rfl ⟨by rw [HX.out], BF.out⟩
end M
end Go.Proofs.Ytplccefjljdjnaa
namespace Go.Proofs.Ytplccefjljdjnaa
open Go.RowKit Go.Lib
namespace M
attribute [local go_sem] Oper.semAt_some
/-- The weight of a text that stands k times. -/
theorem wt_rep (t : List Nat) : ∀ {k : Nat}, 0 < k → wt (rep k t) = ⟨t.length * k, t.count 10 * k, if t.count 10 = 0 then t.length * k else hdT t, if t.count 10 = 0 then t.length * k else tlT t, dg (rep k t)⟩
  | 1, _ => by
    rw [rep_one]
    have hg := good_wt t
    unfold wt
    by_cases h : t.count 10 = 0
    · have h2 := hg.none h
      have h3 : hdT t = t.length := h2.1
      have h4 : tlT t = t.length := h2.2
      simp [h, h3, h4]
    · simp [h]
  | k + 2, _ => by
    have ih := wt_rep t (k := k + 1) (by omega)
    have hg := good_wt t
    have hd : dg (rep (k + 2) t) = joinD (dg t) (dg (rep (k + 1) t)) := by rw [rep_succ, dg_append]
    rw [rep_succ, wt_append, ih]
    unfold joinW wt
    simp only [Wt.mk.injEq]
    have e1 : ∀ n : Nat, n * (k + 2) = n + n * (k + 1) := fun n => by rw [Nat.mul_add, Nat.mul_add]; omega
    refine ⟨(e1 _).symm, (e1 _).symm, ?_, ?_, by rw [dg_append]⟩
    · by_cases h : t.count 10 = 0
      · rw [if_pos h, if_pos h, if_pos h, e1]
      · rw [if_neg h, if_neg h]
    · by_cases h : t.count 10 = 0
      · have h4 : tlT t = t.length := (hg.none h).2
        rw [if_pos (by rw [h]; simp), if_pos h, h4, e1]; omega
      · rw [if_neg h, if_neg (by have : 0 < t.count 10 * (k + 1) := Nat.mul_pos (by omega) (by omega); omega)]
        rw [if_neg h]
def PPr (n0 : Nat) (v1 v2 : Value) (j : Nat) (v : Value) (w : World) : Prop := match j with
  | 12 => v = v1
  | 13 => v = v2
  | 14 => BoxW n0 v w
  | _ => True
theorem PPr.mono {n0 : Nat} {v1 v2 : Value} (j : Nat) (v : Value) (w w' : World) (h : PPr n0 v1 v2 j v w) (hb : Below w.heap.size w w') : PPr n0 v1 v2 j v w' := by
  unfold PPr at *
  split
  · exact h
  · exact h
  · obtain ⟨B, h1, h2, h3⟩ := h
    exact ⟨B, h1, h2, below_block hb h3⟩
  · trivial
set_option maxRecDepth 100000 in
set_option maxHeartbeats 4000000 in
theorem wrep_any (W : World) {t : List Nat} {k : Nat} (hk : 0 < k) (hkm : k ≤ 9223372036854775807) (ht : 0 < t.length) (hl : t.length * k ≤ 1152921504606846976) :
    Calls Try.prog 56 #[wtV (wt t), .int .i64 k] W fun e w' => e = .returned (.tuple #[wtV (wt (rep k t)), .nilIface]) ∧ Below W.heap.size W w' := by
  have HF : ∀ f, Fence.wide.fn f := fun _ => trivial
  have hle : t.length ≤ 1152921504606846976 := Nat.le_trans (Nat.le_mul_of_pos_right _ hk) hl
  obtain ⟨a, ha⟩ : ∃ a, wt t = a := ⟨_, rfl⟩
  have hok : WtOk a := by rw [← ha]; exact wt_ok hle
  have hlen : a.len = t.length := by rw [← ha]; rfl
  have hlin : a.lines = t.count 10 := by rw [← ha]; rfl
  have hR := wt_rep t hk
  have HR : Hid (wt (rep k t) = ⟨a.len * k, a.lines * k, if a.lines = 0 then a.len * k else a.head, if a.lines = 0 then a.len * k else a.tail, dg (rep k t)⟩) := Lib.hid (by rw [hR, ← ha]; rfl)
  have HDA : Hid (dg t = a.d) := Lib.hid (by rw [← ha]; rfl)
  have HLE : Hid (a.len * k ≤ 1152921504606846976 ∧ a.lines * k ≤ 1152921504606846976 ∧ 0 < a.len * k ∧ 0 < a.len) := Lib.hid (by
    rw [hlen, hlin]
    exact ⟨hl, Nat.le_trans (Nat.mul_le_mul_right k List.count_le_length) hl, Nat.mul_pos ht hk, ht⟩)
  rw [ha]
  clear hle ha hlen hlin hR ht hl
  obtain ⟨W1, hW1⟩ : ∃ w, (W.alloc (.cells #[.int .i64 a.len, .int .i64 a.lines, .int .i64 a.head, .int .i64 a.tail, .int .u64 a.d.v, .int .u64 a.d.s] 118)).alloc (.cells #[.int .i64 0, .int .i64 0, .int .i64 0, .int .i64 0, .int .u64 0, .int .u64 0] 118) = w := ⟨_, rfl⟩
  have k1 : WtC W1 W.heap.size a := by
    rw [← hW1]
    exact below_block ((Below.refl _ _).alloc (Nat.le_refl _) _) (heap_new' W _)
  have k3 : WtC W1 (W.heap.size + 1) w0 := by
    rw [← hW1]
    have := heap_new' (W.alloc (.cells #[.int .i64 a.len, .int .i64 a.lines, .int .i64 a.head, .int .i64 a.tail, .int .u64 a.d.v, .int .u64 a.d.s] 118)) (.cells #[.int .i64 0, .int .i64 0, .int .i64 0, .int .i64 0, .int .u64 0, .int .u64 0] 118)
    rw [World.size_alloc] at this
    exact this
  have b1 : Below W.heap.size W W1 := by
    rw [← hW1]
    exact ((Below.refl _ W).alloc (Nat.le_refl _) _).alloc (by simp) _
  have hsz : W.heap.size + 1 < W1.heap.size := (Array.getElem?_eq_some_iff.1 k3).1
  have K1 := Lib.hid k1; have K3 := Lib.hid k3; have B1 := Lib.hid b1; have HZ := Lib.hid hsz
  have HA := Lib.hid hok
  obtain ⟨a0, a1, a2, a3, a4, a5⟩ := k1.cells
  clear k1 k3 b1 hok hsz
  have hk0 : ¬ ((k : Int) < 0) := by omega
  unfold wtV
  go_enter Try.func56, Try.ntmps56
  go_wp2_with fail
  refine (wvalid_any W1 HA.out).mono ?_; rintro e w3 ⟨rfl, b3⟩
  have B3 := Lib.hid b3
  have k1 := below_block b3 K1.out
  obtain ⟨a0, a1, a2, a3, a4, a5⟩ := WtC.cells k1
  clear b3 k1 hW1
  go_wp2_with fail
  refine (mul1_any w3 HA.out.le HLE.out.2.2.2 hkm).mono ?_; rintro e w4 ⟨rfl, h⟩
  rw [if_pos HLE.out.1, h]
  clear h w4
  obtain ⟨n, hn⟩ : ∃ n, a.len * k = n := ⟨_, rfl⟩
  obtain ⟨l, hl⟩ : ∃ n, a.lines * k = n := ⟨_, rfl⟩
  rw [hn] at HR HLE ⊢
  rw [hl] at HR HLE
  have hn0 : ((n : Int) == 0) = false := by have := HLE.out.2.2.1; simp; omega
  have hwl : IntKind.i64.wrap ((a.lines : Int) * (k : Int)) = (l : Int) := by
    have := HLE.out.2.1
    have e : (a.lines : Int) * (k : Int) = (l : Int) := by rw [← hl]; exact (Int.natCast_mul _ _).symm
    rw [IntKind.wrap_i64, e]; omega
  clear hn hl
  go_wp2_with fail
  have m : ∀ w, Below w3.heap.size w3 w → WtC w W.heap.size a := fun w h => below_block (Below.after B3.out h) K1.out
  have ma1 : ∀ w, Below w3.heap.size w3 w → w.cell? ⟨W.heap.size, 1, none⟩ = some (.int .i64 a.lines) := fun w h => ((m w h).cells).2.1
  have ma2 : ∀ w, Below w3.heap.size w3 w → w.cell? ⟨W.heap.size, 2, none⟩ = some (.int .i64 a.head) := fun w h => ((m w h).cells).2.2.1
  have ma3 : ∀ w, Below w3.heap.size w3 w → w.cell? ⟨W.heap.size, 3, none⟩ = some (.int .i64 a.tail) := fun w h => ((m w h).cells).2.2.2.1
  have ma4 : ∀ w, Below w3.heap.size w3 w → w.cell? ⟨W.heap.size, 4, none⟩ = some (.int .u64 a.d.v) := fun w h => ((m w h).cells).2.2.2.2.1
  have ma5 : ∀ w, Below w3.heap.size w3 w → w.cell? ⟨W.heap.size, 5, none⟩ = some (.int .u64 a.d.s) := fun w h => ((m w h).cells).2.2.2.2.2
  obtain ⟨j, hj⟩ : ∃ j, dg (rep k t) = j := ⟨_, rfl⟩
  have HJ := Lib.hid hj
  rw [hj] at HR
  clear hj m a0 a1 a2 a3 a4 a5
  refine wp_region_anyH (Below w3.heap.size w3) (by kernel_rfl) ?_
  have S0 : Below w3.heap.size w3 w3.drew := (Below.refl _ _).drew
  refine AnyH.take (i := 0) (d := some 32) (v := ?_) (by kernel_rfl) rfl rfl HF (fun _ _ _ h => h) (.inl ⟨by rfl, ?_⟩) (by first | assumption | rfl) ?_
  rotate_left
  · intro w hS; try subst hS
    go_simp; try with_reducible rfl
  try simp only [Act.put, List.setIfInBounds_toArray, List.set_cons_zero, List.set_cons_succ]
  refine AnyH.take (i := 1) (d := some 33) (v := ?_) (by kernel_rfl) rfl rfl HF (fun _ _ _ h => h) (.inl ⟨by rfl, ?_⟩) (by first | assumption | rfl) ?_
  rotate_left
  · intro w hS; try subst hS
    go_simp; try with_reducible rfl
  try simp only [Act.put, List.setIfInBounds_toArray, List.set_cons_zero, List.set_cons_succ]
  refine AnyH.take (i := 2) (d := some 34) (v := ?_) (by kernel_rfl) rfl rfl HF (fun _ _ _ h => h) (.inl ⟨by rfl, ?_⟩) (by first | assumption | rfl) ?_
  rotate_left
  · intro w hS; try subst hS
    go_simp; try with_reducible rfl
  try simp only [Act.put, List.setIfInBounds_toArray, List.set_cons_zero, List.set_cons_succ]
  refine AnyH.take (i := 3) (d := some 35) (v := ?_) (by kernel_rfl) rfl rfl HF (fun _ _ _ h => h) (.inl ⟨by rfl, ?_⟩) (by first | assumption | rfl) ?_
  rotate_left
  · intro w hS; try subst hS
    go_simp; try with_reducible rfl
  try simp only [Act.put, List.setIfInBounds_toArray, List.set_cons_zero, List.set_cons_succ]
  refine AnyH.take (i := 4) (d := some 36) (v := ?_) (by kernel_rfl) rfl rfl HF (fun _ _ _ h => h) (.inl ⟨by rfl, ?_⟩) (by first | assumption | rfl) ?_
  rotate_left
  · intro w hS; try subst hS
    go_simp; try with_reducible rfl
  try simp only [Act.put, List.setIfInBounds_toArray, List.set_cons_zero, List.set_cons_succ]
  refine AnyH.take (i := 5) (d := some 37) (v := ?_) (by kernel_rfl) rfl rfl HF (fun _ _ _ h => h) (.inl ⟨by rfl, ?_⟩) (by first | assumption | rfl) ?_
  rotate_left
  · intro w hS; try subst hS
    go_simp; try with_reducible rfl
  try simp only [Act.put, List.setIfInBounds_toArray, List.set_cons_zero, List.set_cons_succ]
  refine AnyH.take (i := 6) (d := some 38) (v := ?_) (by kernel_rfl) rfl rfl HF (fun _ _ _ h => h) (.inl ⟨by rfl, ?_⟩) (by first | assumption | rfl) ?_
  rotate_left
  · intro w hS; try subst hS
    go_simp; try with_reducible rfl
  try simp only [Act.put, List.setIfInBounds_toArray, List.set_cons_zero, List.set_cons_succ]
  refine AnyH.take (i := 7) (d := some 39) (v := ?_) (by kernel_rfl) rfl rfl HF (fun _ _ _ h => h) (.inl ⟨by rfl, ?_⟩) (by first | assumption | rfl) ?_
  rotate_left
  · intro w hS; try subst hS
    go_simp; try with_reducible rfl
  try simp only [Act.put, List.setIfInBounds_toArray, List.set_cons_zero, List.set_cons_succ]
  refine AnyH.take (i := 8) (d := some 40) (v := ?_) (by kernel_rfl) rfl rfl HF (fun _ _ _ h => h) (.inl ⟨by rfl, ?_⟩) (by first | assumption | rfl) ?_
  rotate_left
  · intro w hS; try subst hS
    go_simp; try with_reducible rfl
  try simp only [Act.put, List.setIfInBounds_toArray, List.set_cons_zero, List.set_cons_succ]
  refine AnyH.take (i := 9) (d := some 41) (v := ?_) (by kernel_rfl) rfl rfl HF (fun _ _ _ h => h) (.inl ⟨by rfl, ?_⟩) (by first | assumption | rfl) ?_
  rotate_left
  · intro w hS; try subst hS
    go_simp; try with_reducible rfl
  try simp only [Act.put, List.setIfInBounds_toArray, List.set_cons_zero, List.set_cons_succ]
  refine AnyH.take (i := 10) (d := some 42) (v := ?_) (by kernel_rfl) rfl rfl HF (fun _ _ _ h => h) (.inl ⟨by rfl, ?_⟩) (by first | assumption | rfl) ?_
  rotate_left
  · intro w hS; try subst hS
    go_simp; try with_reducible rfl
  try simp only [Act.put, List.setIfInBounds_toArray, List.set_cons_zero, List.set_cons_succ]
  refine AnyH.take (i := 11) (d := some 43) (v := ?_) (by kernel_rfl) rfl rfl HF (fun _ _ _ h => h) (.inl ⟨by rfl, ?_⟩) (by first | assumption | rfl) ?_
  rotate_left
  · intro w hS; try subst hS
    go_simp; try with_reducible rfl
  try simp only [Act.put, List.setIfInBounds_toArray, List.set_cons_zero, List.set_cons_succ]
  clear ma1 ma2 ma3 ma4 ma5
  refine AnyH.floatL [12, 13, 14] 15 (fun x => match x with | 13 => [12] | _ => []) (fun x => match x with | 12 => 44 | 13 => 45 | _ => 8) (PPr w3.heap.size (dgV j) (.agg #[.int .i64 n, .int .i64 l, .int .i64 a.head, .int .i64 a.tail, .int .u64 j.v, .int .u64 j.s])) (fun x => x == 14) (by kernel_rfl) (by kernel_rfl) (Nat.le_of_ble_eq_true (by kernel_rfl)) HF S0 (fun x _ v w w' h hb => PPr.mono x v w w' h hb) ?box ?step ?tail
  case box =>
    intro x hx hal v w h
    simp only [List.mem_cons, List.not_mem_nil, or_false] at hx
    rcases hx with rfl | rfl | rfl
    · cases hal
    · cases hal
    · obtain ⟨B, h1, h2, h3⟩ := h; exact ⟨B, h1, (Array.getElem?_eq_some_iff.1 h3).1⟩
  case step =>
    intro x hx vs w hS hP K hK
    simp only [List.mem_cons, List.not_mem_nil, or_false] at hx
    rcases hx with rfl | rfl | rfl
    · refine StepIn.mk rfl (by rfl) ?_
      simp only [putL, List.foldl_nil, List.foldl_cons, Act.put, List.setIfInBounds_toArray, List.set_cons_zero, List.set_cons_succ] at hK ⊢
      go_simp
      have hd := drep_any w t k hkm
      rw [HDA.out] at hd
      refine ⟨rfl, callsIn_wide.2 (hd.mono ?_)⟩
      rintro e w4 ⟨rfl, b4⟩
      rw [HJ.out]
      exact hK _ _ (Below.after hS b4) b4 rfl (fun h => absurd h (by decide))
    · have h14 : vs 12 = dgV j := hP 12 (by simp)
      refine StepIn.mk rfl (by rfl) ?_
      simp only [putL, List.foldl_nil, List.foldl_cons, h14, Act.put, List.setIfInBounds_toArray, List.set_cons_zero, List.set_cons_succ] at hK ⊢
      unfold dgV at hK ⊢
      go_simp
      exact hK _ _ hS (Below.refl _ _) rfl (fun h => absurd h (by decide))
    · refine StepIn.mk rfl (by rfl) ?_
      simp only [putL, List.foldl_nil, List.foldl_cons, Act.put, List.setIfInBounds_toArray, List.set_cons_zero, List.set_cons_succ] at hK ⊢
      go_simp
      exact hK _ _ (hS.alloc hS.size _) ((Below.refl _ _).alloc (Nat.le_refl _) _) ⟨_, rfl, hS.size, heap_new' _ _⟩ (fun _ => rfl)
  case tail =>
    intro vs w hS hP hD
    have h14 : vs 12 = dgV j := hP 12 (by simp)
    have h15 : vs 13 = _ := hP 13 (by simp)
    obtain ⟨B, e16, lB, nB⟩ : BoxW w3.heap.size (vs 14) w := hP 14 (by simp)
    clear hP hD
    simp only [putL, List.foldl_nil, List.foldl_cons, h14, h15, e16, Act.put, List.setIfInBounds_toArray, List.set_cons_zero, List.set_cons_succ, List.drop_succ_cons, List.drop_zero]
    clear h14 h15 e16 vs
    obtain ⟨x0, x1, x2, x3, x4, x5⟩ := nB.cells
    have f0 := nB.free 0; have f1 := nB.free 1; have f2 := nB.free 2; have f3 := nB.free 3; have f4 := nB.free 4; have f5 := nB.free 5
    have K4 := Lib.hid (nB.set ⟨n, l, a.head, a.tail, j⟩)
    have B4 := Lib.hid (setW_below hS lB ⟨n, l, a.head, a.tail, j⟩)
    obtain ⟨w4, hw4⟩ : ∃ w', setW w B ⟨n, l, a.head, a.tail, j⟩ = w' := ⟨_, rfl⟩
    rw [hw4] at K4 B4
    simp only [setW] at hw4
    have HLB := Lib.hid lB
    simp only [w0] at x0 x1 x2 x3 x4 x5
    have bw4 : Below w3.heap.size w3 w4 := B4.out
    have kw4 : WtC w4 B ⟨n, l, a.head, a.tail, j⟩ := K4.out
    have qa := below_block (Below.after B3.out bw4) K1.out
    obtain ⟨a0, a1, a2, a3, a4, a5⟩ := WtC.cells qa
    have g2 := kw4.free 2; have g3 := kw4.free 3
    obtain ⟨y0, y1, y2, y3, y4, y5⟩ := kw4.cells
    clear qa bw4 kw4 lB nB S0 hS hwl
    by_cases h1 : a.lines = 0
    · have z1 : ((a.lines : Int) == 0) = true := by simp [h1]
      obtain ⟨w5, hw5⟩ : ∃ w, w4.setCell ⟨B, 2, none⟩ (.int .i64 n) = w := ⟨_, rfl⟩
      have K5 : Hid (WtC w5 B ⟨n, l, n, a.tail, j⟩) := Lib.hid (by rw [← hw5]; exact K4.out.set2 n)
      have B5 : Hid (Below w3.heap.size w3 w5) := Lib.hid (by rw [← hw5]; exact B4.out.setCell (p := ⟨B, 2, none⟩) HLB.out _)
      have z5 := K5.out.free 3
      obtain ⟨y0, y1, y2, y3', y4, y5⟩ := K5.out.cells
      obtain ⟨w6, hw6⟩ : ∃ w, w5.setCell ⟨B, 3, none⟩ (.int .i64 n) = w := ⟨_, rfl⟩
      have K6 : Hid (WtC w6 B ⟨n, l, n, n, j⟩) := Lib.hid (by rw [← hw6]; exact K5.out.set3 n)
      have B6 : Hid (Below w3.heap.size w3 w6) := Lib.hid (by rw [← hw6]; exact B5.out.setCell (p := ⟨B, 3, none⟩) HLB.out _)
      have k6 := K6.out
      obtain ⟨y0, y1, y2, y3, y4, y5⟩ := k6.cells
      clear k6
      have HX : Hid (wt (rep k t) = ⟨n, l, n, n, j⟩) := Lib.hid (by rw [HR.out, if_pos h1, if_pos h1])
      have k0 : WtC w6 (W.heap.size + 1) w0 := below_block (Below.after B3.out B6.out) K3.out
      obtain ⟨r0, r1, r2, r3, r4, r5⟩ := k0.cells
      have t0 := k0.free 0; have t1 := k0.free 1; have t2 := k0.free 2; have t3 := k0.free 3; have t4 := k0.free 4; have t5 := k0.free 5
      simp only [w0] at r0 r1 r2 r3 r4 r5
      have KF := Lib.hid (k0.set ⟨n, l, n, n, j⟩)
      have BF := Lib.hid (setW_below (Below.after B1.out (Below.after B3.out B6.out)) (g := W.heap.size + 1) (by omega) ⟨n, l, n, n, j⟩)
      obtain ⟨w9, hw9⟩ : ∃ w', setW w6 (W.heap.size + 1) ⟨n, l, n, n, j⟩ = w' := ⟨_, rfl⟩
      rw [hw9] at KF BF
      simp only [setW] at hw9
      clear k0 h1
      gi_wp2_with fail
      go_wp2_with fail
      obtain ⟨c0, c1, c2, c3, c4, c5⟩ := KF.out.cells
      exact bodyPost_ret (v := .tuple #[.agg #[.int .i64 n, .int .i64 l, .int .i64 n, .int .i64 n, .int .u64 j.v, .int .u64 j.s], .nilIface]) (by simp [results, Try.results56, go_sem, c0, c1, c2, c3, c4, c5]) rfl ⟨by rw [HX.out], BF.out⟩
    · have z1 : ((a.lines : Int) == 0) = false := by simp; omega
      have HX : Hid (wt (rep k t) = ⟨n, l, a.head, a.tail, j⟩) := Lib.hid (by rw [HR.out, if_neg h1, if_neg h1])
      have k0 : WtC w4 (W.heap.size + 1) w0 := below_block (Below.after B3.out B4.out) K3.out
      obtain ⟨r0, r1, r2, r3, r4, r5⟩ := k0.cells
      have t0 := k0.free 0; have t1 := k0.free 1; have t2 := k0.free 2; have t3 := k0.free 3; have t4 := k0.free 4; have t5 := k0.free 5
      simp only [w0] at r0 r1 r2 r3 r4 r5
      have KF := Lib.hid (k0.set ⟨n, l, a.head, a.tail, j⟩)
      have BF := Lib.hid (setW_below (Below.after B1.out (Below.after B3.out B4.out)) (g := W.heap.size + 1) (by omega) ⟨n, l, a.head, a.tail, j⟩)
      obtain ⟨w9, hw9⟩ : ∃ w', setW w4 (W.heap.size + 1) ⟨n, l, a.head, a.tail, j⟩ = w' := ⟨_, rfl⟩
      rw [hw9] at KF BF
      simp only [setW] at hw9
      clear k0 h1
      gi_wp2_with fail
      go_wp2_with fail
      obtain ⟨c0, c1, c2, c3, c4, c5⟩ := KF.out.cells
      exact bodyPost_ret (v := .tuple #[.agg #[.int .i64 n, .int .i64 l, .int .i64 a.head, .int .i64 a.tail, .int .u64 j.v, .int .u64 j.s], .nilIface]) (by simp [results, Try.results56, go_sem, c0, c1, c2, c3, c4, c5]) rfl ⟨by rw [HX.out], BF.out⟩
end M
end Go.Proofs.Ytplccefjljdjnaa
