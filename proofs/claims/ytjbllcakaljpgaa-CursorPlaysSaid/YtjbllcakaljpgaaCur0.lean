/- The cursor: its block; Length, Offset, Left, Skip. -/
import Derived.Test.YtjbllcakaljpgaaStoreGet
namespace Go.Proofs.Ytjbllcakaljpgaa
open Go.RowKit Go.Lib
namespace M
attribute [local go_sem] Oper.semAt_some
def CuC (W : World) (c B : Nat) (id len at' : Nat) : Prop := W.heap[c]? = some (.cells #[.pointer (some ⟨B, 0, none⟩), .int .i64 id, .int .i64 len, .int .i64 at'] 93 (0, 0))
section
variable {W : World} {c B id len at' : Nat}
theorem CuC.cells (h : CuC W c B id len at') : W.cell? ⟨c, 0, none⟩ = some (.pointer (some ⟨B, 0, none⟩)) ∧ W.cell? ⟨c, 1, none⟩ = some (.int .i64 id) ∧ W.cell? ⟨c, 2, none⟩ = some (.int .i64 len) ∧ W.cell? ⟨c, 3, none⟩ = some (.int .i64 at') ∧ W.frozen? ⟨c, 3, none⟩ = false := by
  unfold CuC at h
  simp [World.cell?, World.frozen?, h]
theorem CuC.move (h : CuC W c B id len at') (n : Nat) : CuC (W.setCell ⟨c, 3, none⟩ (.int .i64 n)) c B id len n := by
  unfold CuC at h ⊢
  exact heap_set0 _ h
end
set_option maxRecDepth 100000 in
theorem length_any {W : World} {c B id len at' : Nat} (h : CuC W c B id len at') : Calls Try.prog 13 #[.pointer (some ⟨c, 0, none⟩)] W fun e w' => e = .returned (.int .i64 len) ∧ w' = W := by
  obtain ⟨-, -, c2, -⟩ := h.cells
  clear h
  go_enter Try.func13, Try.ntmps13
  go_wp2_with fail
  go_ret
  exact ⟨rfl, rfl⟩
set_option maxRecDepth 100000 in
theorem offset_any {W : World} {c B id len at' : Nat} (h : CuC W c B id len at') : Calls Try.prog 14 #[.pointer (some ⟨c, 0, none⟩)] W fun e w' => e = .returned (.int .i64 at') ∧ w' = W := by
  obtain ⟨-, -, -, c3, -⟩ := h.cells
  clear h
  go_enter Try.func14, Try.ntmps14
  go_wp2_with fail
  go_ret
  exact ⟨rfl, rfl⟩
/-- Where a move by n ends. -/
def mv (len at' : Nat) (n : Int) : Int := if n < -(at' : Int) then -(at' : Int) else if n > (len : Int) - at' then (len : Int) - at' else n
theorem mv_in {len at' : Nat} (h : at' ≤ len) (n : Int) : 0 ≤ (at' : Int) + mv len at' n ∧ (at' : Int) + mv len at' n ≤ len := by
  unfold mv; split; omega; split <;> omega
set_option maxRecDepth 100000 in
set_option maxHeartbeats 1000000 in
theorem skip_any {W : World} {c B id len at' : Nat} (h : CuC W c B id len at') (ha : at' ≤ len) (hl : len ≤ 1152921504606846976) (n : Int) :
    Calls Try.prog 12 #[.pointer (some ⟨c, 0, none⟩), .int .i64 n] W fun e w' => e = .returned (.int .i64 (mv len at' n)) ∧ ∃ w1, Below W.heap.size W w1 ∧ w' = w1.setCell ⟨c, 3, none⟩ (.int .i64 ((at' : Int) + mv len at' n)) := by
  have HF : ∀ f, Fence.wide.fn f := fun _ => trivial
  have m2 : ∀ w, Below W.heap.size W w → w.cell? ⟨c, 2, none⟩ = some (.int .i64 len) := fun w hw => (CuC.cells (below_block hw h)).2.2.1
  have m3 : ∀ w, Below W.heap.size W w → w.cell? ⟨c, 3, none⟩ = some (.int .i64 at') := fun w hw => (CuC.cells (below_block hw h)).2.2.2.1
  have hw1 : IntKind.i64.wrap (-(at' : Int)) = -(at' : Int) := by rw [IntKind.wrap_i64]; omega
  have hw2 : IntKind.i64.wrap ((len : Int) - (at' : Int)) = (len : Int) - (at' : Int) := by rw [IntKind.wrap_i64]; omega
  obtain ⟨k, hk⟩ : ∃ k, mv len at' n = k := ⟨_, rfl⟩
  have hin := mv_in ha n
  rw [hk] at hin
  have hw3 : IntKind.i64.wrap ((at' : Int) + k) = (at' : Int) + k := by rw [IntKind.wrap_i64]; omega
  have HK := Lib.hid hk; have H := Lib.hid h
  rw [hk]
  clear hk h hin ha hl
  go_enter Try.func12, Try.ntmps12
  go_wp2_with fail
  refine wp_region_anyH (Below W.heap.size W) (by kernel_rfl) ?_
  have S0 : Below W.heap.size W W.drew := (Below.refl _ _).drew
  obtain ⟨w2, hw2'⟩ : ∃ w, W.drew = w := ⟨_, rfl⟩
  rw [hw2'] at S0 ⊢
  clear hw2'
  refine AnyH.take (i := 0) (d := some 7) (v := ?_) (by kernel_rfl) rfl rfl HF (fun _ _ _ h => h) (.inl ⟨by rfl, ?_⟩) (by first | assumption | rfl) ?_
  rotate_left
  · intro w hS; try subst hS
    go_simp; try with_reducible rfl
  try simp only [Act.put, List.setIfInBounds_toArray, List.set_cons_zero, List.set_cons_succ]
  refine AnyH.take (i := 1) (d := some 8) (v := ?_) (by kernel_rfl) rfl rfl HF (fun _ _ _ h => h) (.inl ⟨by rfl, ?_⟩) (by first | assumption | rfl) ?_
  rotate_left
  · intro w hS; try subst hS
    go_simp; try with_reducible rfl
  try simp only [Act.put, List.setIfInBounds_toArray, List.set_cons_zero, List.set_cons_succ]
  refine AnyH.take (i := 2) (d := some 9) (v := ?_) (by kernel_rfl) rfl rfl HF (fun _ _ _ h => h) (.inl ⟨by rfl, ?_⟩) (by first | assumption | rfl) ?_
  rotate_left
  · intro w hS; try subst hS
    go_simp; try with_reducible rfl
  try simp only [Act.put, List.setIfInBounds_toArray, List.set_cons_zero, List.set_cons_succ]
  refine AnyH.take (i := 3) (d := some 10) (v := ?_) (by kernel_rfl) rfl rfl HF (fun _ _ _ h => h) (.inl ⟨by rfl, ?_⟩) (by first | assumption | rfl) ?_
  rotate_left
  · intro w hS; try subst hS
    go_simp; try with_reducible rfl
  try simp only [Act.put, List.setIfInBounds_toArray, List.set_cons_zero, List.set_cons_succ]
  refine AnyH.take (i := 4) (d := some 11) (v := ?_) (by kernel_rfl) rfl rfl HF (fun _ _ _ h => h) (.inl ⟨by rfl, ?_⟩) (by first | assumption | rfl) ?_
  rotate_left
  · intro w hS; try subst hS
    go_simp; try with_reducible rfl
  try simp only [Act.put, List.setIfInBounds_toArray, List.set_cons_zero, List.set_cons_succ]
  refine AnyH.take (i := 5) (d := some 12) (v := ?_) (by kernel_rfl) rfl rfl HF (fun _ _ _ h => h) (.inl ⟨by rfl, ?_⟩) (by first | assumption | rfl) ?_
  rotate_left
  · intro w hS; try subst hS
    go_simp; try with_reducible rfl
  try simp only [Act.put, List.setIfInBounds_toArray, List.set_cons_zero, List.set_cons_succ]
  refine AnyH.take (i := 6) (d := some 13) (v := ?_) (by kernel_rfl) rfl rfl HF (fun _ _ _ h => h) (.inl ⟨by rfl, ?_⟩) (by first | assumption | rfl) ?_
  rotate_left
  · intro w hS; try subst hS
    go_simp; try with_reducible rfl
  try simp only [Act.put, List.setIfInBounds_toArray, List.set_cons_zero, List.set_cons_succ]
  refine AnyH.take (i := 7) (d := some 14) (v := ?_) (by kernel_rfl) rfl rfl HF (fun _ _ _ h => h) (.inl ⟨by rfl, ?_⟩) (by first | assumption | rfl) ?_
  rotate_left
  · intro w hS; try subst hS
    go_simp; try with_reducible rfl
  try simp only [Act.put, List.setIfInBounds_toArray, List.set_cons_zero, List.set_cons_succ]
  refine AnyH.take (i := 8) (d := some 15) (v := ?_) (by kernel_rfl) rfl rfl HF (fun _ _ _ h => h) (.inl ⟨by rfl, ?_⟩) (by first | assumption | rfl) ?_
  rotate_left
  · intro w hS; try subst hS
    go_simp; try with_reducible rfl
  try simp only [Act.put, List.setIfInBounds_toArray, List.set_cons_zero, List.set_cons_succ]
  refine AnyH.take (i := 9) (d := some 16) (v := ?_) (by kernel_rfl) rfl rfl HF (fun _ _ _ h => h) (.inl ⟨by rfl, ?_⟩) (by first | assumption | rfl) ?_
  rotate_left
  · intro w hS; try subst hS
    go_simp; try with_reducible rfl
  try simp only [Act.put, List.setIfInBounds_toArray, List.set_cons_zero, List.set_cons_succ]
  refine AnyH.take (i := 10) (d := some 17) (v := ?_) (by kernel_rfl) rfl rfl HF (fun _ _ _ h => h) (.inl ⟨by rfl, ?_⟩) (by first | assumption | rfl) ?_
  rotate_left
  · intro w hS; try subst hS
    go_simp; try with_reducible rfl
  try simp only [Act.put, List.setIfInBounds_toArray, List.set_cons_zero, List.set_cons_succ]
  refine AnyH.take (i := 11) (d := some 18) (v := ?_) (by kernel_rfl) rfl rfl HF (fun _ _ _ h => h) (.inl ⟨by rfl, ?_⟩) (by first | assumption | rfl) ?_
  rotate_left
  · intro w hS; try subst hS
    go_simp; try with_reducible rfl
  try simp only [Act.put, List.setIfInBounds_toArray, List.set_cons_zero, List.set_cons_succ]
  refine AnyH.take (i := 12) (d := some 19) (v := ?_) (by kernel_rfl) rfl rfl HF (fun _ _ _ h => h) (.inl ⟨by rfl, ?_⟩) (by first | assumption | rfl) ?_
  rotate_left
  · intro w hS; try subst hS
    go_simp; try with_reducible rfl
  try simp only [Act.put, List.setIfInBounds_toArray, List.set_cons_zero, List.set_cons_succ]
  refine AnyH.take (i := 13) (d := some 20) (v := ?_) (by kernel_rfl) rfl rfl HF (fun _ _ _ h => h) (.inl ⟨by rfl, ?_⟩) (by first | assumption | rfl) ?_
  rotate_left
  · intro w hS; try subst hS
    go_simp; try with_reducible rfl
  try simp only [Act.put, List.setIfInBounds_toArray, List.set_cons_zero, List.set_cons_succ]
  refine AnyH.take (i := 14) (d := some 21) (v := ?_) (by kernel_rfl) rfl rfl HF (fun _ _ _ h => h) (.inl ⟨by rfl, ?_⟩) (by first | assumption | rfl) ?_
  rotate_left
  · intro w hS; try subst hS
    go_simp; try with_reducible rfl
  try simp only [Act.put, List.setIfInBounds_toArray, List.set_cons_zero, List.set_cons_succ]
  refine AnyH.one (i := 15) (by kernel_rfl) (by kernel_rfl) rfl HF (by rfl) (fun K hK => ?_)
  go_simp
  first | ((with_reducible refine And.intro ?hdep ?_); (case hdep => first | rfl | (intro h; cases h))) | skip
  refine callsIn_wide.2 ((clip_any w2 n (-(at' : Int)) ((len : Int) - (at' : Int))).mono ?_)
  rintro e w ⟨rfl, h⟩; rw [h]; clear h w
  have hk : (if n < -(at' : Int) then -(at' : Int) else if n > (len : Int) - at' then (len : Int) - at' else n) = k := HK.out
  rw [hk]
  clear hk
  refine hK _ _ S0 ?_
  clear hK K
  try simp only [Act.put, List.setIfInBounds_toArray, List.set_cons_zero, List.set_cons_succ]
  refine AnyH.take (i := 16) (d := some 1) (v := ?_) (by kernel_rfl) rfl rfl HF (fun _ _ _ h => h) (.inl ⟨by rfl, ?_⟩) (by first | assumption | rfl) ?_
  rotate_left
  · intro w hS; try subst hS
    go_simp; try with_reducible rfl
  try simp only [Act.put, List.setIfInBounds_toArray, List.set_cons_zero, List.set_cons_succ]
  refine AnyH.done (by kernel_rfl) ?_
  have h2 : CuC w2 c B id len at' := below_block S0 H.out
  obtain ⟨-, -, c2, c3, f3⟩ := h2.cells
  have HS := Lib.hid S0
  clear m2 m3 S0 h2
  go_wp2_with fail
  go_ret
  exact ⟨rfl, w2, HS.out, rfl⟩
end M
end Go.Proofs.Ytjbllcakaljpgaa
