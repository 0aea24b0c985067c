/- A weight is valid. -/
import Derived.Test.YtpjcfepngjpfbaaDigest
namespace Go.Proofs.Ytpjcfepngjpfbaa
open Go.RowKit Go.Lib
namespace M
attribute [local go_sem] Oper.semAt_some
structure WtOk (w : Wt) : Prop where
  good : Good w
  le : w.len ≤ 1152921504606846976
  v : w.d.v < 2305843009213693951
  z : w.len = 0 → w.d.v = 0
  s : w.d.s = bs ^ w.len % P
theorem wt_ok {t : List Nat} (h : t.length ≤ 1152921504606846976) : WtOk (wt t) := ⟨good_wt t, h, dgv_lt t, fun e => by
  have : t = [] := List.eq_nil_of_length_eq_zero e
  subst this; rfl, rfl⟩
theorem WtOk.dok {w : Wt} (h : WtOk w) : w.d.ok := ⟨by have := h.v; omega, by rw [h.s]; exact Nat.lt_trans (Nat.mod_lt _ Q_pos) Q_lt⟩
theorem box_wt (W : World) (w : Wt) : ∃ W1, W.alloc (.cells #[.int .i64 w.len, .int .i64 w.lines, .int .i64 w.head, .int .i64 w.tail, .int .u64 w.d.v, .int .u64 w.d.s] 88) = W1 ∧ WtC W1 W.heap.size w ∧ Below W.heap.size W W1 := ⟨_, rfl, heap_new' _ _, (Below.refl _ _).alloc (Nat.le_refl _) _⟩
set_option maxRecDepth 100000 in
set_option maxHeartbeats 2000000 in
theorem wvalid_any (W : World) {w : Wt} (hw : WtOk w) : Calls Try.prog 80 #[.agg #[.int .i64 w.len, .int .i64 w.lines, .int .i64 w.head, .int .i64 w.tail, .int .u64 w.d.v, .int .u64 w.d.s]] W fun e w' => e = .returned (.bool true) ∧ Below W.heap.size W w' := by
  have HF : ∀ f, Fence.wide.fn f := fun _ => trivial
  obtain ⟨⟨g1, g2, g3⟩, h1, h2, h3, h4⟩ := hw
  obtain ⟨l, n, h, t, v, s⟩ := w
  dsimp only at *
  obtain ⟨W1, hW1, k1, b1⟩ := box_wt W ⟨l, n, h, t, v, s⟩
  dsimp only at hW1
  obtain ⟨c0, c1, c2, c3, c4, c5⟩ := k1.cells
  dsimp only at c0 c1 c2 c3 c4 c5
  have K1 := Lib.hid k1; have B1 := Lib.hid b1; have H4 := Lib.hid h4; have H1 := Lib.hid h1
  have m0 : ∀ w, Below W1.heap.size W1 w → w.cell? ⟨W.heap.size, 0, none⟩ = some (.int .i64 l) := fun w h => (WtC.cells (below_block h k1)).1
  have m5 : ∀ w, Below W1.heap.size W1 w → w.cell? ⟨W.heap.size, 5, none⟩ = some (.int .u64 s) := fun w h => (WtC.cells (below_block h k1)).2.2.2.2.2
  have hwl : IntKind.u64.wrap (l : Int) = (l : Int) := by rw [IntKind.wrap_u64]; omega
  have zb : decide ((2305843009213693951 : Int) ≤ (v : Int)) = false := decide_eq_false (by omega)
  have hse : ((s : Int) == ((bs ^ l % P : Nat) : Int)) = true := by rw [h4]; simp
  clear k1 b1 h4
  go_enter Try.func80, Try.ntmps80
  go_wp2_with fail
  refine (valid_yes W1 h1).mono ?_; rintro e w1 ⟨rfl, h⟩; rw [h]; clear h w1
  clear h1
  have H2 := Lib.hid h2
  clear h2
  have n0 : ¬ ((n : Int) < 0) := by omega
  by_cases hn : n = 0
  · obtain ⟨rfl, rfl⟩ := g1 hn
    subst hn
    have nn : ((0 : Int) == 0) = true := rfl
    have hh : ((t : Int) != (t : Int)) = false := by simp
    clear g1 g2 g3
    by_cases hl : t = 0
    · have hv := h3 hl
      subst hl hv
      go_wp2_with fail
      clear c0 c1 c2 c3 c4 c5 hW1
      refine wp_region_anyH (Below W1.heap.size W1) (by kernel_rfl) ?_
      have S0 : Below W1.heap.size W1 W1.drew := (Below.refl _ _).drew
      obtain ⟨w2, hw2⟩ : ∃ w, W1.drew = w := ⟨_, rfl⟩
      rw [hw2] at S0 ⊢
      clear hw2
      refine AnyH.take (i := 0) (d := some 89) (v := ?_) (by kernel_rfl) rfl rfl HF (fun _ _ _ h => h) (.inl ⟨by rfl, ?_⟩) (by first | assumption | rfl) ?_
      rotate_left
      · intro w hS; try subst hS
        go_simp; try with_reducible rfl
      try simp only [Act.put, List.setIfInBounds_toArray, List.set_cons_zero, List.set_cons_succ]
      refine AnyH.take (i := 1) (d := some 90) (v := ?_) (by kernel_rfl) rfl rfl HF (fun _ _ _ h => h) (.inl ⟨by rfl, ?_⟩) (by first | assumption | rfl) ?_
      rotate_left
      · intro w hS; try subst hS
        go_simp; try with_reducible rfl
      try simp only [Act.put, List.setIfInBounds_toArray, List.set_cons_zero, List.set_cons_succ]
      refine AnyH.take (i := 2) (d := some 91) (v := ?_) (by kernel_rfl) rfl rfl HF (fun _ _ _ h => h) (.inl ⟨by rfl, ?_⟩) (by first | assumption | rfl) ?_
      rotate_left
      · intro w hS; try subst hS
        go_simp; try with_reducible rfl
      try simp only [Act.put, List.setIfInBounds_toArray, List.set_cons_zero, List.set_cons_succ]
      refine AnyH.take (i := 3) (d := some 92) (v := ?_) (by kernel_rfl) rfl rfl HF (fun _ _ _ h => h) (.inl ⟨by rfl, ?_⟩) (by first | assumption | rfl) ?_
      rotate_left
      · intro w hS; try subst hS
        go_simp; try with_reducible rfl
      try simp only [Act.put, List.setIfInBounds_toArray, List.set_cons_zero, List.set_cons_succ]
      refine AnyH.take (i := 4) (d := some 93) (v := ?_) (by kernel_rfl) rfl rfl HF (fun _ _ _ h => h) (.inl ⟨by rfl, ?_⟩) (by first | assumption | rfl) ?_
      rotate_left
      · intro w hS; try subst hS
        go_simp; try with_reducible rfl
      try simp only [Act.put, List.setIfInBounds_toArray, List.set_cons_zero, List.set_cons_succ]
      refine AnyH.take (i := 5) (d := some 94) (v := ?_) (by kernel_rfl) rfl rfl HF (fun _ _ _ h => h) (.inl ⟨by rfl, ?_⟩) (by first | assumption | rfl) ?_
      rotate_left
      · intro w hS; try subst hS
        go_simp; try with_reducible rfl
      try simp only [Act.put, List.setIfInBounds_toArray, List.set_cons_zero, List.set_cons_succ]
      refine AnyH.one (i := 6) (by kernel_rfl) (by kernel_rfl) rfl HF (by rfl) (fun K hK => ?_)
      go_simp
      first | ((with_reducible refine And.intro ?hdep ?_); (case hdep => first | rfl | (intro h; cases h))) | skip
      refine callsIn_wide.2 ((pow_any w2 1103515245 0 (by omega) (by have := H1.out; omega)).mono ?_)
      rintro e w ⟨rfl, h⟩; rw [h]; clear h w
      refine hK _ _ S0 ?_
      clear hK K
      try simp only [Act.put, List.setIfInBounds_toArray, List.set_cons_zero, List.set_cons_succ]
      refine AnyH.take (i := 7) (d := some 96) (v := ?_) (by kernel_rfl) rfl rfl HF (fun _ _ _ h => h) (.inl ⟨by rfl, ?_⟩) (by first | assumption | rfl) ?_
      rotate_left
      · intro w hS; try subst hS
        go_simp; try with_reducible rfl
      try simp only [Act.put, List.setIfInBounds_toArray, List.set_cons_zero, List.set_cons_succ]
      refine AnyH.take (i := 8) (d := some 2) (v := ?_) (by kernel_rfl) rfl rfl HF (fun _ _ _ h => h) (.inl ⟨by rfl, ?_⟩) (by first | assumption | rfl) ?_
      rotate_left
      · intro w hS; try subst hS
        go_simp; try with_reducible rfl
      try simp only [Act.put, List.setIfInBounds_toArray, List.set_cons_zero, List.set_cons_succ]
      refine AnyH.done (by kernel_rfl) ?_
      have B2 := Lib.hid (Below.after B1.out S0)
      clear S0 m0 m5
      gi_wp2_with fail
      go_wp2_with fail
      go_ret
      exact ⟨by simp [H4.out, bs], B2.out⟩
    · have hl0 : ((t : Int) == 0) = false := by simp; omega
      go_wp2_with fail
      clear c0 c1 c2 c3 c4 c5 hW1
      refine wp_region_anyH (Below W1.heap.size W1) (by kernel_rfl) ?_
      have S0 : Below W1.heap.size W1 W1.drew := (Below.refl _ _).drew
      obtain ⟨w2, hw2⟩ : ∃ w, W1.drew = w := ⟨_, rfl⟩
      rw [hw2] at S0 ⊢
      clear hw2
      refine AnyH.take (i := 0) (d := some 89) (v := ?_) (by kernel_rfl) rfl rfl HF (fun _ _ _ h => h) (.inl ⟨by rfl, ?_⟩) (by first | assumption | rfl) ?_
      rotate_left
      · intro w hS; try subst hS
        go_simp; try with_reducible rfl
      try simp only [Act.put, List.setIfInBounds_toArray, List.set_cons_zero, List.set_cons_succ]
      refine AnyH.take (i := 1) (d := some 90) (v := ?_) (by kernel_rfl) rfl rfl HF (fun _ _ _ h => h) (.inl ⟨by rfl, ?_⟩) (by first | assumption | rfl) ?_
      rotate_left
      · intro w hS; try subst hS
        go_simp; try with_reducible rfl
      try simp only [Act.put, List.setIfInBounds_toArray, List.set_cons_zero, List.set_cons_succ]
      refine AnyH.take (i := 2) (d := some 91) (v := ?_) (by kernel_rfl) rfl rfl HF (fun _ _ _ h => h) (.inl ⟨by rfl, ?_⟩) (by first | assumption | rfl) ?_
      rotate_left
      · intro w hS; try subst hS
        go_simp; try with_reducible rfl
      try simp only [Act.put, List.setIfInBounds_toArray, List.set_cons_zero, List.set_cons_succ]
      refine AnyH.take (i := 3) (d := some 92) (v := ?_) (by kernel_rfl) rfl rfl HF (fun _ _ _ h => h) (.inl ⟨by rfl, ?_⟩) (by first | assumption | rfl) ?_
      rotate_left
      · intro w hS; try subst hS
        go_simp; try with_reducible rfl
      try simp only [Act.put, List.setIfInBounds_toArray, List.set_cons_zero, List.set_cons_succ]
      refine AnyH.take (i := 4) (d := some 93) (v := ?_) (by kernel_rfl) rfl rfl HF (fun _ _ _ h => h) (.inl ⟨by rfl, ?_⟩) (by first | assumption | rfl) ?_
      rotate_left
      · intro w hS; try subst hS
        go_simp; try with_reducible rfl
      try simp only [Act.put, List.setIfInBounds_toArray, List.set_cons_zero, List.set_cons_succ]
      refine AnyH.take (i := 5) (d := some 94) (v := ?_) (by kernel_rfl) rfl rfl HF (fun _ _ _ h => h) (.inl ⟨by rfl, ?_⟩) (by first | assumption | rfl) ?_
      rotate_left
      · intro w hS; try subst hS
        go_simp; try with_reducible rfl
      try simp only [Act.put, List.setIfInBounds_toArray, List.set_cons_zero, List.set_cons_succ]
      refine AnyH.one (i := 6) (by kernel_rfl) (by kernel_rfl) rfl HF (by rfl) (fun K hK => ?_)
      go_simp
      first | ((with_reducible refine And.intro ?hdep ?_); (case hdep => first | rfl | (intro h; cases h))) | skip
      refine callsIn_wide.2 ((pow_any w2 1103515245 t (by omega) (by have := H1.out; omega)).mono ?_)
      rintro e w ⟨rfl, h⟩; rw [h]; clear h w
      refine hK _ _ S0 ?_
      clear hK K
      try simp only [Act.put, List.setIfInBounds_toArray, List.set_cons_zero, List.set_cons_succ]
      refine AnyH.take (i := 7) (d := some 96) (v := ?_) (by kernel_rfl) rfl rfl HF (fun _ _ _ h => h) (.inl ⟨by rfl, ?_⟩) (by first | assumption | rfl) ?_
      rotate_left
      · intro w hS; try subst hS
        go_simp; try with_reducible rfl
      try simp only [Act.put, List.setIfInBounds_toArray, List.set_cons_zero, List.set_cons_succ]
      refine AnyH.take (i := 8) (d := some 2) (v := ?_) (by kernel_rfl) rfl rfl HF (fun _ _ _ h => h) (.inl ⟨by rfl, ?_⟩) (by first | assumption | rfl) ?_
      rotate_left
      · intro w hS; try subst hS
        go_simp; try with_reducible rfl
      try simp only [Act.put, List.setIfInBounds_toArray, List.set_cons_zero, List.set_cons_succ]
      refine AnyH.done (by kernel_rfl) ?_
      have B2 := Lib.hid (Below.after B1.out S0)
      clear S0 m0 m5
      gi_wp2_with fail
      go_wp2_with fail
      go_ret
      exact ⟨by simp [H4.out, bs], B2.out⟩
  · have nn : ((n : Int) == 0) = false := by simp; omega
    have gg := g2 (by omega)
    have hl0 : ((l : Int) == 0) = false := by simp; omega
    have i1 : ¬ ((h : Int) < 0) := by omega
    have i2 : ¬ ((h : Int) > (l : Int)) := by omega
    have i3 : ¬ ((t : Int) < 0) := by omega
    have i4 : ¬ ((t : Int) > (l : Int) - (h : Int)) := by omega
    have u1 : IntKind.i64.wrap ((l : Int) - (h : Int)) = (l : Int) - (h : Int) := by rw [IntKind.wrap_i64]; have := H1.out; omega
    have u2 : IntKind.i64.wrap ((l : Int) - (h : Int) - (t : Int)) = (l : Int) - (h : Int) - (t : Int) := by rw [IntKind.wrap_i64]; have := H1.out; omega
    have i5 : ¬ ((n : Int) > (l : Int) - (h : Int) - (t : Int)) := by omega
    by_cases hn1 : n = 1
    · have g4 := g3 hn1
      have e1 : ((n : Int) == 1) = true := by simp [hn1]
      have e2 : ((l : Int) - (h : Int) - (t : Int) != 1) = false := by simp; omega
      clear g1 g2 g3 gg g4 hn hn1
      go_wp2_with fail
      clear c0 c1 c2 c3 c4 c5 hW1
      refine wp_region_anyH (Below W1.heap.size W1) (by kernel_rfl) ?_
      have S0 : Below W1.heap.size W1 W1.drew := (Below.refl _ _).drew
      obtain ⟨w2, hw2⟩ : ∃ w, W1.drew = w := ⟨_, rfl⟩
      rw [hw2] at S0 ⊢
      clear hw2
      refine AnyH.take (i := 0) (d := some 89) (v := ?_) (by kernel_rfl) rfl rfl HF (fun _ _ _ h => h) (.inl ⟨by rfl, ?_⟩) (by first | assumption | rfl) ?_
      rotate_left
      · intro w hS; try subst hS
        go_simp; try with_reducible rfl
      try simp only [Act.put, List.setIfInBounds_toArray, List.set_cons_zero, List.set_cons_succ]
      refine AnyH.take (i := 1) (d := some 90) (v := ?_) (by kernel_rfl) rfl rfl HF (fun _ _ _ h => h) (.inl ⟨by rfl, ?_⟩) (by first | assumption | rfl) ?_
      rotate_left
      · intro w hS; try subst hS
        go_simp; try with_reducible rfl
      try simp only [Act.put, List.setIfInBounds_toArray, List.set_cons_zero, List.set_cons_succ]
      refine AnyH.take (i := 2) (d := some 91) (v := ?_) (by kernel_rfl) rfl rfl HF (fun _ _ _ h => h) (.inl ⟨by rfl, ?_⟩) (by first | assumption | rfl) ?_
      rotate_left
      · intro w hS; try subst hS
        go_simp; try with_reducible rfl
      try simp only [Act.put, List.setIfInBounds_toArray, List.set_cons_zero, List.set_cons_succ]
      refine AnyH.take (i := 3) (d := some 92) (v := ?_) (by kernel_rfl) rfl rfl HF (fun _ _ _ h => h) (.inl ⟨by rfl, ?_⟩) (by first | assumption | rfl) ?_
      rotate_left
      · intro w hS; try subst hS
        go_simp; try with_reducible rfl
      try simp only [Act.put, List.setIfInBounds_toArray, List.set_cons_zero, List.set_cons_succ]
      refine AnyH.take (i := 4) (d := some 93) (v := ?_) (by kernel_rfl) rfl rfl HF (fun _ _ _ h => h) (.inl ⟨by rfl, ?_⟩) (by first | assumption | rfl) ?_
      rotate_left
      · intro w hS; try subst hS
        go_simp; try with_reducible rfl
      try simp only [Act.put, List.setIfInBounds_toArray, List.set_cons_zero, List.set_cons_succ]
      refine AnyH.take (i := 5) (d := some 94) (v := ?_) (by kernel_rfl) rfl rfl HF (fun _ _ _ h => h) (.inl ⟨by rfl, ?_⟩) (by first | assumption | rfl) ?_
      rotate_left
      · intro w hS; try subst hS
        go_simp; try with_reducible rfl
      try simp only [Act.put, List.setIfInBounds_toArray, List.set_cons_zero, List.set_cons_succ]
      refine AnyH.one (i := 6) (by kernel_rfl) (by kernel_rfl) rfl HF (by rfl) (fun K hK => ?_)
      go_simp
      first | ((with_reducible refine And.intro ?hdep ?_); (case hdep => first | rfl | (intro h; cases h))) | skip
      refine callsIn_wide.2 ((pow_any w2 1103515245 l (by omega) (by have := H1.out; omega)).mono ?_)
      rintro e w ⟨rfl, h⟩; rw [h]; clear h w
      refine hK _ _ S0 ?_
      clear hK K
      try simp only [Act.put, List.setIfInBounds_toArray, List.set_cons_zero, List.set_cons_succ]
      refine AnyH.take (i := 7) (d := some 96) (v := ?_) (by kernel_rfl) rfl rfl HF (fun _ _ _ h => h) (.inl ⟨by rfl, ?_⟩) (by first | assumption | rfl) ?_
      rotate_left
      · intro w hS; try subst hS
        go_simp; try with_reducible rfl
      try simp only [Act.put, List.setIfInBounds_toArray, List.set_cons_zero, List.set_cons_succ]
      refine AnyH.take (i := 8) (d := some 2) (v := ?_) (by kernel_rfl) rfl rfl HF (fun _ _ _ h => h) (.inl ⟨by rfl, ?_⟩) (by first | assumption | rfl) ?_
      rotate_left
      · intro w hS; try subst hS
        go_simp; try with_reducible rfl
      try simp only [Act.put, List.setIfInBounds_toArray, List.set_cons_zero, List.set_cons_succ]
      refine AnyH.done (by kernel_rfl) ?_
      have B2 := Lib.hid (Below.after B1.out S0)
      clear S0 m0 m5
      gi_wp2_with fail
      go_wp2_with fail
      go_ret
      exact ⟨by simp [H4.out, bs], B2.out⟩
    · have e1 : ((n : Int) == 1) = false := by simp; omega
      clear g1 g2 g3 gg hn hn1
      go_wp2_with fail
      clear c0 c1 c2 c3 c4 c5 hW1
      refine wp_region_anyH (Below W1.heap.size W1) (by kernel_rfl) ?_
      have S0 : Below W1.heap.size W1 W1.drew := (Below.refl _ _).drew
      obtain ⟨w2, hw2⟩ : ∃ w, W1.drew = w := ⟨_, rfl⟩
      rw [hw2] at S0 ⊢
      clear hw2
      refine AnyH.take (i := 0) (d := some 89) (v := ?_) (by kernel_rfl) rfl rfl HF (fun _ _ _ h => h) (.inl ⟨by rfl, ?_⟩) (by first | assumption | rfl) ?_
      rotate_left
      · intro w hS; try subst hS
        go_simp; try with_reducible rfl
      try simp only [Act.put, List.setIfInBounds_toArray, List.set_cons_zero, List.set_cons_succ]
      refine AnyH.take (i := 1) (d := some 90) (v := ?_) (by kernel_rfl) rfl rfl HF (fun _ _ _ h => h) (.inl ⟨by rfl, ?_⟩) (by first | assumption | rfl) ?_
      rotate_left
      · intro w hS; try subst hS
        go_simp; try with_reducible rfl
      try simp only [Act.put, List.setIfInBounds_toArray, List.set_cons_zero, List.set_cons_succ]
      refine AnyH.take (i := 2) (d := some 91) (v := ?_) (by kernel_rfl) rfl rfl HF (fun _ _ _ h => h) (.inl ⟨by rfl, ?_⟩) (by first | assumption | rfl) ?_
      rotate_left
      · intro w hS; try subst hS
        go_simp; try with_reducible rfl
      try simp only [Act.put, List.setIfInBounds_toArray, List.set_cons_zero, List.set_cons_succ]
      refine AnyH.take (i := 3) (d := some 92) (v := ?_) (by kernel_rfl) rfl rfl HF (fun _ _ _ h => h) (.inl ⟨by rfl, ?_⟩) (by first | assumption | rfl) ?_
      rotate_left
      · intro w hS; try subst hS
        go_simp; try with_reducible rfl
      try simp only [Act.put, List.setIfInBounds_toArray, List.set_cons_zero, List.set_cons_succ]
      refine AnyH.take (i := 4) (d := some 93) (v := ?_) (by kernel_rfl) rfl rfl HF (fun _ _ _ h => h) (.inl ⟨by rfl, ?_⟩) (by first | assumption | rfl) ?_
      rotate_left
      · intro w hS; try subst hS
        go_simp; try with_reducible rfl
      try simp only [Act.put, List.setIfInBounds_toArray, List.set_cons_zero, List.set_cons_succ]
      refine AnyH.take (i := 5) (d := some 94) (v := ?_) (by kernel_rfl) rfl rfl HF (fun _ _ _ h => h) (.inl ⟨by rfl, ?_⟩) (by first | assumption | rfl) ?_
      rotate_left
      · intro w hS; try subst hS
        go_simp; try with_reducible rfl
      try simp only [Act.put, List.setIfInBounds_toArray, List.set_cons_zero, List.set_cons_succ]
      refine AnyH.one (i := 6) (by kernel_rfl) (by kernel_rfl) rfl HF (by rfl) (fun K hK => ?_)
      go_simp
      first | ((with_reducible refine And.intro ?hdep ?_); (case hdep => first | rfl | (intro h; cases h))) | skip
      refine callsIn_wide.2 ((pow_any w2 1103515245 l (by omega) (by have := H1.out; omega)).mono ?_)
      rintro e w ⟨rfl, h⟩; rw [h]; clear h w
      refine hK _ _ S0 ?_
      clear hK K
      try simp only [Act.put, List.setIfInBounds_toArray, List.set_cons_zero, List.set_cons_succ]
      refine AnyH.take (i := 7) (d := some 96) (v := ?_) (by kernel_rfl) rfl rfl HF (fun _ _ _ h => h) (.inl ⟨by rfl, ?_⟩) (by first | assumption | rfl) ?_
      rotate_left
      · intro w hS; try subst hS
        go_simp; try with_reducible rfl
      try simp only [Act.put, List.setIfInBounds_toArray, List.set_cons_zero, List.set_cons_succ]
      refine AnyH.take (i := 8) (d := some 2) (v := ?_) (by kernel_rfl) rfl rfl HF (fun _ _ _ h => h) (.inl ⟨by rfl, ?_⟩) (by first | assumption | rfl) ?_
      rotate_left
      · intro w hS; try subst hS
        go_simp; try with_reducible rfl
      try simp only [Act.put, List.setIfInBounds_toArray, List.set_cons_zero, List.set_cons_succ]
      refine AnyH.done (by kernel_rfl) ?_
      have B2 := Lib.hid (Below.after B1.out S0)
      clear S0 m0 m5
      gi_wp2_with fail
      go_wp2_with fail
      go_ret
      exact ⟨by simp [H4.out, bs], B2.out⟩
end M
end Go.Proofs.Ytpjcfepngjpfbaa
