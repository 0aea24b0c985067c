/- Pairs of the sum and the maximum: Unit and Join. -/
import Derived.Test.YtpgnhnimndagpaaJoins
import Derived.Test.YtpgnhnimndagpaaPair
import Derived.Test.YtpgnhnimndagpaaOwn
import Derived.Test.YtpgnhnimndagpaaTail
import Derived.Outline
namespace Go.Proofs.Ytpgnhnimndagpaa
open Go.RowKit
attribute [local go_sem] Oper.semAt_some
theorem part_zero {w : World} {B : Nat} (h : w.heap[B]? = some (.cells #[] 48 (0, 0))) : (partAt ⟨B, 0, none⟩ 0 0).run Try.prog w = .ok ⟨B, 0, none⟩ w := by
  have hc : Try.prog.cellsOf 48 = 0 := by kernel_rfl
  have hs : w.shape? B = some (48, 0) := by simp [World.shape?, h]
  unfold partAt byteOf
  simp [go_sem, noView, viewAt, shape, Sem.run, hc, hs, h, Result.andThen]
def joinB (f g : Int × Int) : Int × Int := (addI f.1 g.1, maxI f.2 g.2)
theorem catch83 (p : Addr) (w : World) :
    CallsD Try.prog 83 #[.pointer (some p)] .returning w fun e u' w' => e = .returned (.tuple #[]) ∧ u' = .returning ∧ w' = w := by
  refine callsD_of_wpS Try.func83 rfl fun c₀ cs hu => ?_
  apply wpS_seq
  apply wpS_region
  simp [wpOpsS, go_sem, recoverD, hu, Try.ntmps83, Exit.thenS]
  refine wpS_cond (t := false) (by simp [Act.eval, Array.replicate]) ?_
  simp only [Bool.false_eq_true, if_false]
  refine wpS_of_wp (wp_skip ?_)
  cases c₀
  simp_all [bodyPostS, results, Try.results83]
theorem catch84 (p : Addr) (w : World) :
    CallsD Try.prog 84 #[.pointer (some p)] .returning w fun e u' w' => e = .returned (.tuple #[]) ∧ u' = .returning ∧ w' = w := by
  refine callsD_of_wpS Try.func84 rfl fun c₀ cs hu => ?_
  apply wpS_seq
  apply wpS_region
  simp [wpOpsS, go_sem, recoverD, hu, Try.ntmps84, Exit.thenS]
  refine wpS_cond (t := false) (by simp [Act.eval, Array.replicate]) ?_
  simp only [Bool.false_eq_true, if_false]
  refine wpS_of_wp (wp_skip ?_)
  cases c₀
  simp_all [bodyPostS, results, Try.results84]

set_option maxRecDepth 100000 in
set_option maxHeartbeats 2000000 in
theorem both_unit (W : World) : Calls Try.prog 82 #[.agg #[]] W fun e w' => e = .returned (.agg #[.int .i64 0, .int .i64 (-9223372036854775808)]) ∧ Below W.heap.size W w' := by
  have HF : ∀ f, Fence.wide.fn f := fun _ => trivial
  have hmf : ∀ (fn : Fn) (first cap : Array Value) (w : World), (Instr.makeFunc fn first cap).run Try.prog w = .ok (.func fn first cap) w := fun _ _ _ _ => rfl
  have hm1 : ∀ w : World, (method 206 42 (.agg #[]) "Unit").run Try.prog w = .ok (78, .agg #[]) w := fun _ => by kernel_rfl
  have hm2 : ∀ w : World, (method 206 46 (.agg #[]) "Unit").run Try.prog w = .ok (80, .agg #[]) w := fun _ => by kernel_rfl
  obtain ⟨W0, hW0⟩ : ∃ W0, (W.alloc (.cells #[] 48)).alloc (.cells #[.int .i64 0, .int .i64 0] 51) = W0 := ⟨_, rfl⟩
  have HB0 : Hid (Below W.heap.size W W0) := Lib.hid (by rw [← hW0]; exact ((Below.refl _ W).alloc (Nat.le_refl _) _).alloc (by simp) _)
  have HN : Hid (W0.heap[W.heap.size + 1]? = some (.cells #[.int .i64 0, .int .i64 0] 51 (0, 0))) := Lib.hid (by rw [← hW0]; exact heap_new1 _ _ _)
  have hp0 : W0.heap[W.heap.size]? = some (.cells #[] 48 (0, 0)) := by rw [← hW0]; exact (Below.heap_alloc _ _ _ (by simp)).trans (heap_new _ _)
  have hpp : ∀ w, Below W0.heap.size W0 w → (partAt ⟨W.heap.size, 0, none⟩ 0 0).run Try.prog w = .ok ⟨W.heap.size, 0, none⟩ w := fun w h => part_zero (box_below h hp0)
  clear hp0
  go_enter_defers Try.func82, Try.ntmps82
  go_wp2_with fail
  clear hW0
  have B0 : Below W0.heap.size W0 W0.drew := (Below.refl _ _).drew
  refine wp_region_anyNP (Below W0.heap.size W0) (by kernel_rfl) ?_
  refine AnyH.take (i := 0) (d := some 4) (v := ?_) (by kernel_rfl) rfl rfl HF (fun _ _ _ h => h) (.inl ⟨by rfl, ?_⟩) (by first | assumption | rfl) ?_
  rotate_left
  · intro w hS; try subst hS
    go_simp; try with_reducible rfl
  try simp only [Act.put, List.setIfInBounds_toArray, List.set_cons_zero, List.set_cons_succ]
  refine AnyH.take (i := 1) (d := some 5) (v := ?_) (by kernel_rfl) rfl rfl HF (fun _ _ _ h => h) (.inl ⟨by rfl, ?_⟩) (by first | assumption | rfl) ?_
  rotate_left
  · intro w hS; try subst hS
    go_simp; try with_reducible rfl
  try simp only [Act.put, List.setIfInBounds_toArray, List.set_cons_zero, List.set_cons_succ]
  refine AnyH.take (i := 2) (d := some 6) (v := ?_) (by kernel_rfl) rfl rfl HF (fun _ _ _ h => h) (.inl ⟨by rfl, ?_⟩) (by first | assumption | rfl) ?_
  rotate_left
  · intro w hS; try subst hS
    go_simp; try with_reducible rfl
  try simp only [Act.put, List.setIfInBounds_toArray, List.set_cons_zero, List.set_cons_succ]
  refine AnyH.take (i := 4) (d := some 8) (v := ?_) (by kernel_rfl) rfl rfl HF (fun _ _ _ h => h) (.inl ⟨by rfl, ?_⟩) (by first | assumption | rfl) ?_
  rotate_left
  · intro w hS; try subst hS
    go_simp; try with_reducible rfl
  try simp only [Act.put, List.setIfInBounds_toArray, List.set_cons_zero, List.set_cons_succ]
  refine AnyH.take (i := 5) (d := some 9) (v := ?_) (by kernel_rfl) rfl rfl HF (fun _ _ _ h => h) (.inl ⟨by rfl, ?_⟩) (by first | assumption | rfl) ?_
  rotate_left
  · intro w hS; try subst hS
    go_simp; try with_reducible rfl
  try simp only [Act.put, List.setIfInBounds_toArray, List.set_cons_zero, List.set_cons_succ]
  refine AnyH.take (i := 6) (d := some 10) (v := ?_) (by kernel_rfl) rfl rfl HF (fun _ _ _ h => h) (.inl ⟨by rfl, ?_⟩) (by first | assumption | rfl) ?_
  rotate_left
  · intro w hS; try subst hS
    go_simp; try with_reducible rfl
  try simp only [Act.put, List.setIfInBounds_toArray, List.set_cons_zero, List.set_cons_succ]
  refine AnyH.one (i := 3) (by kernel_rfl) (by kernel_rfl) rfl HF (by rfl) (fun K hK => ?_)
  go_simp
  first | ((with_reducible refine And.intro ?hdep ?_); (case hdep => first | rfl | (intro h; cases h))) | skip
  refine callsIn_wide.2 ((add_unit _).mono ?_)
  rintro e w2 ⟨rfl, b2⟩
  have B2 : Below W0.heap.size W0 w2 := Below.step B0 b2
  refine hK _ _ B2 ?_
  clear hK K
  try simp only [Act.put, List.setIfInBounds_toArray, List.set_cons_zero, List.set_cons_succ]
  refine AnyH.one (i := 7) (by kernel_rfl) (by kernel_rfl) rfl HF (by rfl) (fun K hK => ?_)
  go_simp
  first | ((with_reducible refine And.intro ?hdep ?_); (case hdep => first | rfl | (intro h; cases h))) | skip
  refine callsIn_wide.2 ((max_unit _).mono ?_)
  rintro e w3 ⟨rfl, b3⟩
  have B3 : Below W0.heap.size W0 w3 := Below.step B2 b3
  refine hK _ _ B3 ?_
  clear hK K
  try simp only [Act.put, List.setIfInBounds_toArray, List.set_cons_zero, List.set_cons_succ]
  refine AnyH.take (i := 8) (d := some 12) (v := ?_) (by kernel_rfl) rfl rfl HF (fun _ _ _ h => h) (.inl ⟨by rfl, ?_⟩) (by first | assumption | rfl) ?_
  rotate_left
  · intro w hS; try subst hS
    go_simp; try with_reducible rfl
  try simp only [Act.put, List.setIfInBounds_toArray, List.set_cons_zero, List.set_cons_succ]
  refine AnyH.tailL 9 (by kernel_rfl) ?_
  simp only [List.drop_succ_cons, List.drop_zero]
  have n3 := box_below B3 HN.out
  obtain ⟨d0, d1, e0, e1⟩ := box2_cell n3
  have HN3 := Lib.hid (box2_set (.int .i64 0) (.int .i64 (-9223372036854775808)) n3)
  have HB3 := Lib.hid (below2 (C := W.heap.size + 1) (.int .i64 0) (.int .i64 (-9223372036854775808)) (Below.step HB0.out B3) (by omega))
  clear n3
  gi_wp2_with fail
  refine NP.normal ?_
  go_wp2_with fail
  refine leaves_cons (f := 84) (args := #[.pointer (some ⟨W.heap.size + 1, 0, none⟩)]) (by simp) (by simp [go_sem]) ?_
  refine (catch84 ⟨W.heap.size + 1, 0, none⟩ _).mono ?_
  rintro e u' w'' ⟨rfl, rfl, rfl⟩
  obtain ⟨g0, g1, -, -⟩ := box2_cell HN3.out
  have hB3 := HB3.out
  simp only [Leaves, settle, results, Try.results82]
  simp [go_sem, g0, g1]
  exact hB3

set_option maxRecDepth 100000 in
set_option maxHeartbeats 2000000 in
theorem both_join (f g : Int × Int) (W : World) : Calls Try.prog 81 #[.agg #[], .agg #[.int .i64 f.1, .int .i64 f.2], .agg #[.int .i64 g.1, .int .i64 g.2]] W fun e w' => e = .returned (.agg #[.int .i64 (joinB f g).1, .int .i64 (joinB f g).2]) ∧ Below W.heap.size W w' := by
  obtain ⟨f1, f2⟩ := f
  obtain ⟨g1, g2⟩ := g
  have HF : ∀ f, Fence.wide.fn f := fun _ => trivial
  have hmf : ∀ (fn : Fn) (first cap : Array Value) (w : World), (Instr.makeFunc fn first cap).run Try.prog w = .ok (.func fn first cap) w := fun _ _ _ _ => rfl
  have hm1 : ∀ w : World, (method 206 42 (.agg #[]) "Join").run Try.prog w = .ok (77, .agg #[]) w := fun _ => by kernel_rfl
  have hm2 : ∀ w : World, (method 206 46 (.agg #[]) "Join").run Try.prog w = .ok (79, .agg #[]) w := fun _ => by kernel_rfl
  obtain ⟨W0, hW0⟩ : ∃ W0, (((W.alloc (.cells #[] 48)).alloc (.cells #[.int .i64 f1, .int .i64 f2] 51)).alloc (.cells #[.int .i64 g1, .int .i64 g2] 51)).alloc (.cells #[.int .i64 0, .int .i64 0] 51) = W0 := ⟨_, rfl⟩
  have HB0 : Hid (Below W.heap.size W W0) := Lib.hid (by rw [← hW0]; exact ((((Below.refl _ W).alloc (Nat.le_refl _) _).alloc (by simp) _).alloc (by simp <;> omega) _).alloc (by simp <;> omega) _)
  have h1 : W0.heap[W.heap.size + 1]? = some (.cells #[.int .i64 f1, .int .i64 f2] 51 (0, 0)) := by
    rw [← hW0]; exact (Below.heap_alloc _ _ _ (by simp <;> omega)).trans ((Below.heap_alloc _ _ _ (by simp <;> omega)).trans (heap_new1 _ _ _))
  have h2 : W0.heap[W.heap.size + 1 + 1]? = some (.cells #[.int .i64 g1, .int .i64 g2] 51 (0, 0)) := by
    rw [← hW0]
    have := heap_new1 (W.alloc (.cells #[] 48)) (.cells #[.int .i64 f1, .int .i64 f2] 51) (.cells #[.int .i64 g1, .int .i64 g2] 51)
    rw [World.size_alloc] at this
    exact (Below.heap_alloc _ _ _ (by simp)).trans this
  have h3 : W0.heap[W.heap.size + 1 + 1 + 1]? = some (.cells #[.int .i64 0, .int .i64 0] 51 (0, 0)) := by
    rw [← hW0]
    have := heap_new1 ((W.alloc (.cells #[] 48)).alloc (.cells #[.int .i64 f1, .int .i64 f2] 51)) (.cells #[.int .i64 g1, .int .i64 g2] 51) (.cells #[.int .i64 0, .int .i64 0] 51)
    rwa [World.size_alloc, World.size_alloc] at this
  have k1 : ∀ w, Below W0.heap.size W0 w → w.cell? ⟨W.heap.size + 1, 0, none⟩ = some (.int .i64 f1) := fun w h => (box2_cell (box_below h h1)).1
  have k2 : ∀ w, Below W0.heap.size W0 w → w.cell? ⟨W.heap.size + 1, 1, none⟩ = some (.int .i64 f2) := fun w h => (box2_cell (box_below h h1)).2.1
  have k3 : ∀ w, Below W0.heap.size W0 w → w.cell? ⟨W.heap.size + 1 + 1, 0, none⟩ = some (.int .i64 g1) := fun w h => (box2_cell (box_below h h2)).1
  have k4 : ∀ w, Below W0.heap.size W0 w → w.cell? ⟨W.heap.size + 1 + 1, 1, none⟩ = some (.int .i64 g2) := fun w h => (box2_cell (box_below h h2)).2.1
  have hp0 : W0.heap[W.heap.size]? = some (.cells #[] 48 (0, 0)) := by rw [← hW0]; exact (Below.heap_alloc _ _ _ (by simp <;> omega)).trans ((Below.heap_alloc _ _ _ (by simp <;> omega)).trans ((Below.heap_alloc _ _ _ (by simp)).trans (heap_new _ _)))
  have hpp : ∀ w, Below W0.heap.size W0 w → (partAt ⟨W.heap.size, 0, none⟩ 0 0).run Try.prog w = .ok ⟨W.heap.size, 0, none⟩ w := fun w h => part_zero (box_below h hp0)
  have HN := Lib.hid h3
  clear h1 h2 h3 hp0
  go_enter_defers Try.func81, Try.ntmps81
  go_wp2_with fail
  clear hW0
  have B0 : Below W0.heap.size W0 W0.drew := (Below.refl _ _).drew
  refine wp_region_anyNP (Below W0.heap.size W0) (by kernel_rfl) ?_
  refine AnyH.take (i := 0) (d := some 8) (v := ?_) (by kernel_rfl) rfl rfl HF (fun _ _ _ h => h) (.inl ⟨by rfl, ?_⟩) (by first | assumption | rfl) ?_
  rotate_left
  · intro w hS; try subst hS
    go_simp; try with_reducible rfl
  try simp only [Act.put, List.setIfInBounds_toArray, List.set_cons_zero, List.set_cons_succ]
  refine AnyH.take (i := 1) (d := some 9) (v := ?_) (by kernel_rfl) rfl rfl HF (fun _ _ _ h => h) (.inl ⟨by rfl, ?_⟩) (by first | assumption | rfl) ?_
  rotate_left
  · intro w hS; try subst hS
    go_simp; try with_reducible rfl
  try simp only [Act.put, List.setIfInBounds_toArray, List.set_cons_zero, List.set_cons_succ]
  refine AnyH.take (i := 2) (d := some 10) (v := ?_) (by kernel_rfl) rfl rfl HF (fun _ _ _ h => h) (.inl ⟨by rfl, ?_⟩) (by first | assumption | rfl) ?_
  rotate_left
  · intro w hS; try subst hS
    go_simp; try with_reducible rfl
  try simp only [Act.put, List.setIfInBounds_toArray, List.set_cons_zero, List.set_cons_succ]
  refine AnyH.take (i := 3) (d := some 11) (v := ?_) (by kernel_rfl) rfl rfl HF (fun _ _ _ h => h) (.inl ⟨by rfl, ?_⟩) (by first | assumption | rfl) ?_
  rotate_left
  · intro w hS; try subst hS
    go_simp; try with_reducible rfl
  try simp only [Act.put, List.setIfInBounds_toArray, List.set_cons_zero, List.set_cons_succ]
  refine AnyH.take (i := 4) (d := some 12) (v := ?_) (by kernel_rfl) rfl rfl HF (fun _ _ _ h => h) (.inl ⟨by rfl, ?_⟩) (by first | assumption | rfl) ?_
  rotate_left
  · intro w hS; try subst hS
    go_simp; try with_reducible rfl
  try simp only [Act.put, List.setIfInBounds_toArray, List.set_cons_zero, List.set_cons_succ]
  refine AnyH.take (i := 5) (d := some 13) (v := ?_) (by kernel_rfl) rfl rfl HF (fun _ _ _ h => h) (.inl ⟨by rfl, ?_⟩) (by first | assumption | rfl) ?_
  rotate_left
  · intro w hS; try subst hS
    go_simp; try with_reducible rfl
  try simp only [Act.put, List.setIfInBounds_toArray, List.set_cons_zero, List.set_cons_succ]
  refine AnyH.take (i := 6) (d := some 14) (v := ?_) (by kernel_rfl) rfl rfl HF (fun _ _ _ h => h) (.inl ⟨by rfl, ?_⟩) (by first | assumption | rfl) ?_
  rotate_left
  · intro w hS; try subst hS
    go_simp; try with_reducible rfl
  try simp only [Act.put, List.setIfInBounds_toArray, List.set_cons_zero, List.set_cons_succ]
  refine AnyH.take (i := 8) (d := some 16) (v := ?_) (by kernel_rfl) rfl rfl HF (fun _ _ _ h => h) (.inl ⟨by rfl, ?_⟩) (by first | assumption | rfl) ?_
  rotate_left
  · intro w hS; try subst hS
    go_simp; try with_reducible rfl
  try simp only [Act.put, List.setIfInBounds_toArray, List.set_cons_zero, List.set_cons_succ]
  refine AnyH.take (i := 9) (d := some 17) (v := ?_) (by kernel_rfl) rfl rfl HF (fun _ _ _ h => h) (.inl ⟨by rfl, ?_⟩) (by first | assumption | rfl) ?_
  rotate_left
  · intro w hS; try subst hS
    go_simp; try with_reducible rfl
  try simp only [Act.put, List.setIfInBounds_toArray, List.set_cons_zero, List.set_cons_succ]
  refine AnyH.take (i := 10) (d := some 18) (v := ?_) (by kernel_rfl) rfl rfl HF (fun _ _ _ h => h) (.inl ⟨by rfl, ?_⟩) (by first | assumption | rfl) ?_
  rotate_left
  · intro w hS; try subst hS
    go_simp; try with_reducible rfl
  try simp only [Act.put, List.setIfInBounds_toArray, List.set_cons_zero, List.set_cons_succ]
  refine AnyH.take (i := 11) (d := some 19) (v := ?_) (by kernel_rfl) rfl rfl HF (fun _ _ _ h => h) (.inl ⟨by rfl, ?_⟩) (by first | assumption | rfl) ?_
  rotate_left
  · intro w hS; try subst hS
    go_simp; try with_reducible rfl
  try simp only [Act.put, List.setIfInBounds_toArray, List.set_cons_zero, List.set_cons_succ]
  refine AnyH.take (i := 12) (d := some 20) (v := ?_) (by kernel_rfl) rfl rfl HF (fun _ _ _ h => h) (.inl ⟨by rfl, ?_⟩) (by first | assumption | rfl) ?_
  rotate_left
  · intro w hS; try subst hS
    go_simp; try with_reducible rfl
  try simp only [Act.put, List.setIfInBounds_toArray, List.set_cons_zero, List.set_cons_succ]
  refine AnyH.take (i := 13) (d := some 21) (v := ?_) (by kernel_rfl) rfl rfl HF (fun _ _ _ h => h) (.inl ⟨by rfl, ?_⟩) (by first | assumption | rfl) ?_
  rotate_left
  · intro w hS; try subst hS
    go_simp; try with_reducible rfl
  try simp only [Act.put, List.setIfInBounds_toArray, List.set_cons_zero, List.set_cons_succ]
  refine AnyH.take (i := 14) (d := some 22) (v := ?_) (by kernel_rfl) rfl rfl HF (fun _ _ _ h => h) (.inl ⟨by rfl, ?_⟩) (by first | assumption | rfl) ?_
  rotate_left
  · intro w hS; try subst hS
    go_simp; try with_reducible rfl
  try simp only [Act.put, List.setIfInBounds_toArray, List.set_cons_zero, List.set_cons_succ]
  refine AnyH.one (i := 7) (by kernel_rfl) (by kernel_rfl) rfl HF (by rfl) (fun K hK => ?_)
  go_simp
  first | ((with_reducible refine And.intro ?hdep ?_); (case hdep => first | rfl | (intro h; cases h))) | skip
  refine callsIn_wide.2 ((add_join _ _ _).mono ?_)
  rintro e w2 ⟨rfl, b2⟩
  have B2 : Below W0.heap.size W0 w2 := Below.step B0 b2
  refine hK _ _ B2 ?_
  clear hK K
  try simp only [Act.put, List.setIfInBounds_toArray, List.set_cons_zero, List.set_cons_succ]
  refine AnyH.one (i := 15) (by kernel_rfl) (by kernel_rfl) rfl HF (by rfl) (fun K hK => ?_)
  go_simp
  first | ((with_reducible refine And.intro ?hdep ?_); (case hdep => first | rfl | (intro h; cases h))) | skip
  refine callsIn_wide.2 ((max_join _ _ _).mono ?_)
  rintro e w3 ⟨rfl, b3⟩
  have B3 : Below W0.heap.size W0 w3 := Below.step B2 b3
  refine hK _ _ B3 ?_
  clear hK K
  try simp only [Act.put, List.setIfInBounds_toArray, List.set_cons_zero, List.set_cons_succ]
  refine AnyH.take (i := 16) (d := some 24) (v := ?_) (by kernel_rfl) rfl rfl HF (fun _ _ _ h => h) (.inl ⟨by rfl, ?_⟩) (by first | assumption | rfl) ?_
  rotate_left
  · intro w hS; try subst hS
    go_simp; try with_reducible rfl
  try simp only [Act.put, List.setIfInBounds_toArray, List.set_cons_zero, List.set_cons_succ]
  refine AnyH.tailL 17 (by kernel_rfl) ?_
  simp only [List.drop_succ_cons, List.drop_zero]
  have n3 := box_below B3 HN.out
  obtain ⟨d0, d1, e0, e1⟩ := box2_cell n3
  have HN3 := Lib.hid (box2_set (.int .i64 (addI f1 g1)) (.int .i64 (maxI f2 g2)) n3)
  have HB3 := Lib.hid (below2 (C := W.heap.size + 1 + 1 + 1) (.int .i64 (addI f1 g1)) (.int .i64 (maxI f2 g2)) (Below.step HB0.out B3) (by omega))
  clear n3 k1 k2 k3 k4
  gi_wp2_with fail
  refine NP.normal ?_
  go_wp2_with fail
  refine leaves_cons (f := 83) (args := #[.pointer (some ⟨W.heap.size + 1 + 1 + 1, 0, none⟩)]) (by simp) (by simp [go_sem]) ?_
  refine (catch83 ⟨W.heap.size + 1 + 1 + 1, 0, none⟩ _).mono ?_
  rintro e u' w'' ⟨rfl, rfl, rfl⟩
  obtain ⟨x0, x1, -, -⟩ := box2_cell HN3.out
  have hB3 := HB3.out
  simp only [Leaves, settle, results, Try.results81]
  simp [go_sem, x0, x1]
  exact ⟨⟨rfl, rfl⟩, hB3⟩
end Go.Proofs.Ytpgnhnimndagpaa
