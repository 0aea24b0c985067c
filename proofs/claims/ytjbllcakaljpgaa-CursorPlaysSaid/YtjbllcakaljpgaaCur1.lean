/- The cursor: Left, Seek. -/
import Derived.Test.YtjbllcakaljpgaaCur0
namespace Go.Proofs.Ytjbllcakaljpgaa
open Go.RowKit Go.Lib
namespace M
attribute [local go_sem] Oper.semAt_some
set_option maxRecDepth 100000 in
theorem left_any {W : World} {c B id len at' : Nat} (h : CuC W c B id len at') (ha : at' ≤ len) (hl : len ≤ 1152921504606846976) : Calls Try.prog 17 #[.pointer (some ⟨c, 0, none⟩)] W fun e w' => e = .returned (.int .i64 ((len : Int) - at')) ∧ Below W.heap.size W w' := by
  have HF : ∀ f, Fence.wide.fn f := fun _ => trivial
  have m2 : ∀ w, Below W.heap.size W w → w.cell? ⟨c, 2, none⟩ = some (.int .i64 len) := fun w hw => (CuC.cells (below_block hw h)).2.2.1
  have m3 : ∀ w, Below W.heap.size W w → w.cell? ⟨c, 3, none⟩ = some (.int .i64 at') := fun w hw => (CuC.cells (below_block hw h)).2.2.2.1
  have hw2 : IntKind.i64.wrap ((len : Int) - (at' : Int)) = (len : Int) - (at' : Int) := by rw [IntKind.wrap_i64]; omega
  clear h ha hl
  go_enter Try.func17, Try.ntmps17
  go_wp2_with fail
  refine wp_region_anyH (Below W.heap.size W) (by kernel_rfl) ?_
  have S0 : Below W.heap.size W W.drew := (Below.refl _ _).drew
  refine AnyH.take (i := 0) (d := some 5) (v := ?_) (by kernel_rfl) rfl rfl HF (fun _ _ _ h => h) (.inl ⟨by rfl, ?_⟩) (by first | assumption | rfl) ?_
  rotate_left
  · intro w hS; try subst hS
    go_simp; try with_reducible rfl
  try simp only [Act.put, List.setIfInBounds_toArray, List.set_cons_zero, List.set_cons_succ]
  refine AnyH.take (i := 1) (d := some 6) (v := ?_) (by kernel_rfl) rfl rfl HF (fun _ _ _ h => h) (.inl ⟨by rfl, ?_⟩) (by first | assumption | rfl) ?_
  rotate_left
  · intro w hS; try subst hS
    go_simp; try with_reducible rfl
  try simp only [Act.put, List.setIfInBounds_toArray, List.set_cons_zero, List.set_cons_succ]
  refine AnyH.take (i := 2) (d := some 7) (v := ?_) (by kernel_rfl) rfl rfl HF (fun _ _ _ h => h) (.inl ⟨by rfl, ?_⟩) (by first | assumption | rfl) ?_
  rotate_left
  · intro w hS; try subst hS
    go_simp; try with_reducible rfl
  try simp only [Act.put, List.setIfInBounds_toArray, List.set_cons_zero, List.set_cons_succ]
  refine AnyH.take (i := 3) (d := some 8) (v := ?_) (by kernel_rfl) rfl rfl HF (fun _ _ _ h => h) (.inl ⟨by rfl, ?_⟩) (by first | assumption | rfl) ?_
  rotate_left
  · intro w hS; try subst hS
    go_simp; try with_reducible rfl
  try simp only [Act.put, List.setIfInBounds_toArray, List.set_cons_zero, List.set_cons_succ]
  refine AnyH.take (i := 4) (d := some 9) (v := ?_) (by kernel_rfl) rfl rfl HF (fun _ _ _ h => h) (.inl ⟨by rfl, ?_⟩) (by first | assumption | rfl) ?_
  rotate_left
  · intro w hS; try subst hS
    go_simp; try with_reducible rfl
  try simp only [Act.put, List.setIfInBounds_toArray, List.set_cons_zero, List.set_cons_succ]
  refine AnyH.take (i := 5) (d := some 10) (v := ?_) (by kernel_rfl) rfl rfl HF (fun _ _ _ h => h) (.inl ⟨by rfl, ?_⟩) (by first | assumption | rfl) ?_
  rotate_left
  · intro w hS; try subst hS
    go_simp; try with_reducible rfl
  try simp only [Act.put, List.setIfInBounds_toArray, List.set_cons_zero, List.set_cons_succ]
  refine AnyH.take (i := 6) (d := some 11) (v := ?_) (by kernel_rfl) rfl rfl HF (fun _ _ _ h => h) (.inl ⟨by rfl, ?_⟩) (by first | assumption | rfl) ?_
  rotate_left
  · intro w hS; try subst hS
    go_simp; try with_reducible rfl
  try simp only [Act.put, List.setIfInBounds_toArray, List.set_cons_zero, List.set_cons_succ]
  refine AnyH.take (i := 7) (d := some 12) (v := ?_) (by kernel_rfl) rfl rfl HF (fun _ _ _ h => h) (.inl ⟨by rfl, ?_⟩) (by first | assumption | rfl) ?_
  rotate_left
  · intro w hS; try subst hS
    go_simp; try with_reducible rfl
  try simp only [Act.put, List.setIfInBounds_toArray, List.set_cons_zero, List.set_cons_succ]
  refine AnyH.take (i := 8) (d := some 13) (v := ?_) (by kernel_rfl) rfl rfl HF (fun _ _ _ h => h) (.inl ⟨by rfl, ?_⟩) (by first | assumption | rfl) ?_
  rotate_left
  · intro w hS; try subst hS
    go_simp; try with_reducible rfl
  try simp only [Act.put, List.setIfInBounds_toArray, List.set_cons_zero, List.set_cons_succ]
  refine AnyH.take (i := 9) (d := some 2) (v := ?_) (by kernel_rfl) rfl rfl HF (fun _ _ _ h => h) (.inl ⟨by rfl, ?_⟩) (by first | assumption | rfl) ?_
  rotate_left
  · intro w hS; try subst hS
    go_simp; try with_reducible rfl
  try simp only [Act.put, List.setIfInBounds_toArray, List.set_cons_zero, List.set_cons_succ]
  refine AnyH.done (by kernel_rfl) ?_
  clear m2 m3
  go_wp2_with fail
  go_ret
  exact ⟨rfl, S0⟩
/-- How a Seek ends. -/
def SeekP (c len : Nat) (n : Int) (W : World) (e : Ending) (w' : World) : Prop := (0 ≤ n ∧ n ≤ len ∧ e = .returned .nilIface ∧ w' = W.setCell ⟨c, 3, none⟩ (.int .i64 n)) ∨ (¬ (0 ≤ n ∧ n ≤ len) ∧ e = .returned (err 1) ∧ w' = W)
set_option maxRecDepth 100000 in
theorem seek_any {W : World} {c B id len at' : Nat} (h : CuC W c B id len at') (n : Int) : Calls Try.prog 15 #[.pointer (some ⟨c, 0, none⟩), .int .i64 n] W (SeekP c len n W) := by
  obtain ⟨-, -, c2, c3, f3⟩ := h.cells
  clear h
  by_cases h1 : n < 0
  · go_enter Try.func15, Try.ntmps15
    go_wp2_with fail
    go_ret
    exact .inr ⟨by omega, rfl, rfl⟩
  · by_cases h2 : n > (len : Int)
    · go_enter Try.func15, Try.ntmps15
      go_wp2_with fail
      go_ret
      exact .inr ⟨by omega, rfl, rfl⟩
    · go_enter Try.func15, Try.ntmps15
      go_wp2_with fail
      go_ret
      exact .inl ⟨by omega, by omega, rfl, rfl⟩
end M
end Go.Proofs.Ytjbllcakaljpgaa
