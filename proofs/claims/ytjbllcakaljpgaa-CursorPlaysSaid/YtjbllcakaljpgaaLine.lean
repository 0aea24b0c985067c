/- The cursor: Line. -/
import Derived.Test.YtjbllcakaljpgaaCur2
import Derived.Test.YtjbllcakaljpgaaAccW
import Derived.Test.YtjbllcakaljpgaaTwo
namespace Go.Proofs.Ytjbllcakaljpgaa
open Go.RowKit Go.Lib
namespace M
attribute [local go_sem] Oper.semAt_some
/-- A new box for a weight. -/
theorem boxN {n : Nat} {A w : World} (h : Below n A w) (hn : n ≤ A.heap.size) : ∃ wb, w.alloc (.cells #[.int .i64 0, .int .i64 0, .int .i64 0, .int .i64 0, .int .u64 0, .int .u64 0] 52) = wb ∧ WtC wb w.heap.size w0 ∧ Below n A wb ∧ n ≤ w.heap.size :=
  ⟨_, rfl, heap_new' _ _, h.alloc (Nat.le_trans hn h.size) _, Nat.le_trans hn h.size⟩
theorem stW {w : World} {g : Nat} {u0 : Wt} (h : WtC w g u0) (u : Wt) : ∃ z, (((((w.setCell ⟨g, 0, none⟩ (.int .i64 u.len)).setCell ⟨g, 1, none⟩ (.int .i64 u.lines)).setCell ⟨g, 2, none⟩ (.int .i64 u.head)).setCell ⟨g, 3, none⟩ (.int .i64 u.tail)).setCell ⟨g, 4, none⟩ (.int .u64 u.d.v)).setCell ⟨g, 5, none⟩ (.int .u64 u.d.s) = z ∧ WtC z g u ∧ (∀ n A, Below n A w → n ≤ g → Below n A z) ∧
    (w.frozen? ⟨g, 0, none⟩ = false ∧ w.frozen? ⟨g, 1, none⟩ = false ∧ w.frozen? ⟨g, 2, none⟩ = false ∧ w.frozen? ⟨g, 3, none⟩ = false ∧ w.frozen? ⟨g, 4, none⟩ = false ∧ w.frozen? ⟨g, 5, none⟩ = false) ∧
    (w.cell? ⟨g, 0, none⟩ = some (.int .i64 u0.len) ∧ w.cell? ⟨g, 1, none⟩ = some (.int .i64 u0.lines) ∧ w.cell? ⟨g, 2, none⟩ = some (.int .i64 u0.head) ∧ w.cell? ⟨g, 3, none⟩ = some (.int .i64 u0.tail) ∧ w.cell? ⟨g, 4, none⟩ = some (.int .u64 u0.d.v) ∧ w.cell? ⟨g, 5, none⟩ = some (.int .u64 u0.d.s)) :=
  ⟨_, rfl, h.set u, fun _ _ hb hg => setW_below hb hg u, ⟨h.free 0, h.free 1, h.free 2, h.free 3, h.free 4, h.free 5⟩, h.cells⟩
set_option maxRecDepth 100000 in
set_option maxHeartbeats 4000000 in
theorem line_any {n0 B most : Nat} {W : World} {E : List En} (hs : StAt n0 W B most E) (hwf : Wf E) (hE : E.length ≤ 1048576) {c id len k : Nat} (h : CuC W c B id len k) (hid : id ≤ E.length) (hk : k ≤ (txt E id).length) :
    Calls Try.prog 22 #[.pointer (some ⟨c, 0, none⟩)] W fun e w' => e = .returned (.tuple #[.int .i64 (wt ((txt E id).take k)).lines, .int .i64 (wt ((txt E id).take k)).tail]) ∧ Below W.heap.size W w' := by
  have HF : ∀ f, Fence.wide.fn f := fun _ => trivial
  have m0 : ∀ w, Below W.heap.size W w → w.cell? ⟨c, 0, none⟩ = some (.pointer (some ⟨B, 0, none⟩)) := fun w hw => (CuC.cells (below_block hw h)).1
  have m1 : ∀ w, Below W.heap.size W w → w.cell? ⟨c, 1, none⟩ = some (.int .i64 id) := fun w hw => (CuC.cells (below_block hw h)).2.1
  have m3 : ∀ w, Below W.heap.size W w → w.cell? ⟨c, 3, none⟩ = some (.int .i64 k) := fun w hw => (CuC.cells (below_block hw h)).2.2.2.1
  have HAT : Hid (∀ w, Below W.heap.size W w → Calls Try.prog 24 #[.pointer (some ⟨B, 0, none⟩), .int .i64 id, .int .i64 0, .int .i64 k] w fun e w' => e = .returned (.tuple #[wtV (wt ((txt E id).take k)), .nilIface]) ∧ Below w.heap.size w w') := Lib.hid (fun w hw => by
    have := aweight_any (frm := 0) (n := k) (hs.below hw) hwf hE hid (by omega)
    rw [List.drop_zero, show ((0 : Nat) : Int) = 0 from rfl] at this
    exact this)
  obtain ⟨u, hu⟩ : ∃ u, wt ((txt E id).take k) = u := ⟨_, rfl⟩
  rw [hu] at HAT ⊢
  unfold wtV at HAT
  clear h hs hwf hu
  go_enter Try.func22, Try.ntmps22
  go_wp2_with fail
  refine wp_region_anyH (Below W.heap.size W) (by kernel_rfl) ?_
  obtain ⟨w2, hw2⟩ : ∃ w, W.drew = w := ⟨_, rfl⟩
  have SC : Below W.heap.size W w2 := by rw [← hw2]; exact (Below.refl _ _).drew
  rw [hw2]
  clear hw2
  refine AnyH.take (i := 0) (d := some 9) (v := ?_) (by kernel_rfl) rfl rfl HF (fun _ _ _ h => h) (.inl ⟨by rfl, ?_⟩) (by first | assumption | rfl) ?_
  rotate_left
  · intro w hS; try subst hS
    go_simp; try with_reducible rfl
  try simp only [Act.put, List.setIfInBounds_toArray, List.set_cons_zero, List.set_cons_succ]
  refine AnyH.take (i := 1) (d := some 10) (v := ?_) (by kernel_rfl) rfl rfl HF (fun _ _ _ h => h) (.inl ⟨by rfl, ?_⟩) (by first | assumption | rfl) ?_
  rotate_left
  · intro w hS; try subst hS
    go_simp; try with_reducible rfl
  try simp only [Act.put, List.setIfInBounds_toArray, List.set_cons_zero, List.set_cons_succ]
  refine AnyH.take (i := 2) (d := some 11) (v := ?_) (by kernel_rfl) rfl rfl HF (fun _ _ _ h => h) (.inl ⟨by rfl, ?_⟩) (by first | assumption | rfl) ?_
  rotate_left
  · intro w hS; try subst hS
    go_simp; try with_reducible rfl
  try simp only [Act.put, List.setIfInBounds_toArray, List.set_cons_zero, List.set_cons_succ]
  refine AnyH.take (i := 3) (d := some 12) (v := ?_) (by kernel_rfl) rfl rfl HF (fun _ _ _ h => h) (.inl ⟨by rfl, ?_⟩) (by first | assumption | rfl) ?_
  rotate_left
  · intro w hS; try subst hS
    go_simp; try with_reducible rfl
  try simp only [Act.put, List.setIfInBounds_toArray, List.set_cons_zero, List.set_cons_succ]
  refine AnyH.take (i := 4) (d := some 13) (v := ?_) (by kernel_rfl) rfl rfl HF (fun _ _ _ h => h) (.inl ⟨by rfl, ?_⟩) (by first | assumption | rfl) ?_
  rotate_left
  · intro w hS; try subst hS
    go_simp; try with_reducible rfl
  try simp only [Act.put, List.setIfInBounds_toArray, List.set_cons_zero, List.set_cons_succ]
  refine AnyH.take (i := 5) (d := some 14) (v := ?_) (by kernel_rfl) rfl rfl HF (fun _ _ _ h => h) (.inl ⟨by rfl, ?_⟩) (by first | assumption | rfl) ?_
  rotate_left
  · intro w hS; try subst hS
    go_simp; try with_reducible rfl
  try simp only [Act.put, List.setIfInBounds_toArray, List.set_cons_zero, List.set_cons_succ]
  refine AnyH.take (i := 6) (d := some 15) (v := ?_) (by kernel_rfl) rfl rfl HF (fun _ _ _ h => h) (.inl ⟨by rfl, ?_⟩) (by first | assumption | rfl) ?_
  rotate_left
  · intro w hS; try subst hS
    go_simp; try with_reducible rfl
  try simp only [Act.put, List.setIfInBounds_toArray, List.set_cons_zero, List.set_cons_succ]
  refine AnyH.take (i := 7) (d := some 16) (v := ?_) (by kernel_rfl) rfl rfl HF (fun _ _ _ h => h) (.inl ⟨by rfl, ?_⟩) (by first | assumption | rfl) ?_
  rotate_left
  · intro w hS; try subst hS
    go_simp; try with_reducible rfl
  try simp only [Act.put, List.setIfInBounds_toArray, List.set_cons_zero, List.set_cons_succ]
  refine AnyH.take (i := 8) (d := some 17) (v := ?_) (by kernel_rfl) rfl rfl HF (fun _ _ _ h => h) (.inl ⟨by rfl, ?_⟩) (by first | assumption | rfl) ?_
  rotate_left
  · intro w hS; try subst hS
    go_simp; try with_reducible rfl
  try simp only [Act.put, List.setIfInBounds_toArray, List.set_cons_zero, List.set_cons_succ]
  refine AnyH.take (i := 9) (d := some 18) (v := ?_) (by kernel_rfl) rfl rfl HF (fun _ _ _ h => h) (.inl ⟨by rfl, ?_⟩) (by first | assumption | rfl) ?_
  rotate_left
  · intro w hS; try subst hS
    go_simp; try with_reducible rfl
  try simp only [Act.put, List.setIfInBounds_toArray, List.set_cons_zero, List.set_cons_succ]
  refine AnyH.take (i := 10) (d := some 19) (v := ?_) (by kernel_rfl) rfl rfl HF (fun _ _ _ h => h) (.inl ⟨by rfl, ?_⟩) (by first | assumption | rfl) ?_
  rotate_left
  · intro w hS; try subst hS
    go_simp; try with_reducible rfl
  try simp only [Act.put, List.setIfInBounds_toArray, List.set_cons_zero, List.set_cons_succ]
  refine AnyH.take (i := 11) (d := some 20) (v := ?_) (by kernel_rfl) rfl rfl HF (fun _ _ _ h => h) (.inl ⟨by rfl, ?_⟩) (by first | assumption | rfl) ?_
  rotate_left
  · intro w hS; try subst hS
    go_simp; try with_reducible rfl
  try simp only [Act.put, List.setIfInBounds_toArray, List.set_cons_zero, List.set_cons_succ]
  refine AnyH.two (i := 12) (j := 16) (by kernel_rfl) (by kernel_rfl) rfl rfl HF (by rfl) (by rfl) (fun K hK => ?_) (fun K hK => ?_)
  · go_simp
    first | ((with_reducible refine And.intro ?hdep ?_); (case hdep => first | rfl | (intro h; cases h))) | skip
    refine callsIn_wide.2 ((HAT.out _ SC).mono ?_)
    rintro e wc ⟨rfl, bc⟩
    have SC := Below.after SC bc
    try (have KB := below_block bc KB; obtain ⟨z, hz, KZ, BZ, ⟨f0, f1, f2, f3, f4, f5⟩, ⟨x0, x1, x2, x3, x4, x5⟩⟩ := stW (show WtC wc _ w0 from KB) u; simp only [w0] at x0 x1 x2 x3 x4 x5)
    clear bc
    refine hK _ _ SC ?_
    clear hK K
    try simp only [Act.put, List.setIfInBounds_toArray, List.set_cons_zero, List.set_cons_succ]
    refine AnyH.take (i := 13) (d := some 8) (v := ?_) (by kernel_rfl) rfl rfl HF (fun _ _ _ h => h) (.inl ⟨by rfl, ?_⟩) (by first | assumption | rfl) ?_
    rotate_left
    · intro w hS; try subst hS
      go_simp; try with_reducible rfl
    try simp only [Act.put, List.setIfInBounds_toArray, List.set_cons_zero, List.set_cons_succ]
    refine AnyH.take (i := 14) (d := some 22) (v := ?_) (by kernel_rfl) rfl rfl HF (fun _ _ _ h => h) (.inl ⟨by rfl, ?_⟩) (by first | assumption | rfl) ?_
    rotate_left
    · intro w hS; try subst hS
      go_simp; try with_reducible rfl
    try simp only [Act.put, List.setIfInBounds_toArray, List.set_cons_zero, List.set_cons_succ]
    refine AnyH.take (i := 15) (d := some 23) (v := ?_) (by kernel_rfl) rfl rfl HF (fun _ _ _ h => h) (.inl ⟨by rfl, ?_⟩) (by first | assumption | rfl) ?_
    rotate_left
    · intro w hS; try subst hS
      go_simp; try with_reducible rfl
    try simp only [Act.put, List.setIfInBounds_toArray, List.set_cons_zero, List.set_cons_succ]
    refine AnyH.one (i := 16) (by kernel_rfl) (by kernel_rfl) rfl HF (by rfl) (fun K hK => ?_)
    go_simp
    obtain ⟨wb, hwb, KB, SB, LB⟩ := boxN SC (Nat.le_refl _)
    rw [hwb]
    clear hwb
    have SC := SB
    refine hK _ _ SC ?_
    clear hK K
    obtain ⟨z, hz, KZ, BZ, ⟨f0, f1, f2, f3, f4, f5⟩, ⟨x0, x1, x2, x3, x4, x5⟩⟩ := stW KB u
    simp only [w0] at x0 x1 x2 x3 x4 x5
    try simp only [Act.put, List.setIfInBounds_toArray, List.set_cons_zero, List.set_cons_succ]
    refine AnyH.one (i := 17) (by kernel_rfl) (by kernel_rfl) rfl HF (by rfl) (fun K hK => ?_)
    go_simp
    have SZ := BZ _ _ SC LB
    refine hK _ _ SZ ?_
    clear hK K
    try simp only [Act.put, List.setIfInBounds_toArray, List.set_cons_zero, List.set_cons_succ]
    refine AnyH.take (i := 18) (d := some 5) (v := ?_) (by kernel_rfl) rfl rfl HF (fun _ _ _ h => h) (.inl ⟨by rfl, ?_⟩) (by first | assumption | rfl) ?_
    rotate_left
    · intro w hS; try subst hS
      go_simp; try with_reducible rfl
    try simp only [Act.put, List.setIfInBounds_toArray, List.set_cons_zero, List.set_cons_succ]
    refine AnyH.done (by kernel_rfl) ?_
    have HB := Lib.hid SZ
    have HKZ := Lib.hid KZ
    clear m0 m1 m3 hz f0 f1 f2 f3 f4 f5 x0 x1 x2 x3 x4 x5 KB KZ BZ SC LB SZ
    have n1 : ∀ w, Below z.heap.size z w → w.cell? ⟨_, 1, none⟩ = some (.int .i64 u.lines) := fun w hw => (WtC.cells (below_block hw HKZ.out)).2.1
    have n3 : ∀ w, Below z.heap.size z w → w.cell? ⟨_, 3, none⟩ = some (.int .i64 u.tail) := fun w hw => (WtC.cells (below_block hw HKZ.out)).2.2.2.1
    go_wp2_with fail
    refine wp_region_anyH (Below z.heap.size z) (by kernel_rfl) ?_
    have S1 : Below z.heap.size z z.drew := (Below.refl _ _).drew
    refine AnyH.take (i := 0) (d := some 26) (v := ?_) (by kernel_rfl) rfl rfl HF (fun _ _ _ h => h) (.inl ⟨by rfl, ?_⟩) (by first | assumption | rfl) ?_
    rotate_left
    · intro w hS; try subst hS
      go_simp; try with_reducible rfl
    try simp only [Act.put, List.setIfInBounds_toArray, List.set_cons_zero, List.set_cons_succ]
    refine AnyH.take (i := 1) (d := some 27) (v := ?_) (by kernel_rfl) rfl rfl HF (fun _ _ _ h => h) (.inl ⟨by rfl, ?_⟩) (by first | assumption | rfl) ?_
    rotate_left
    · intro w hS; try subst hS
      go_simp; try with_reducible rfl
    try simp only [Act.put, List.setIfInBounds_toArray, List.set_cons_zero, List.set_cons_succ]
    refine AnyH.take (i := 2) (d := some 28) (v := ?_) (by kernel_rfl) rfl rfl HF (fun _ _ _ h => h) (.inl ⟨by rfl, ?_⟩) (by first | assumption | rfl) ?_
    rotate_left
    · intro w hS; try subst hS
      go_simp; try with_reducible rfl
    try simp only [Act.put, List.setIfInBounds_toArray, List.set_cons_zero, List.set_cons_succ]
    refine AnyH.take (i := 3) (d := some 29) (v := ?_) (by kernel_rfl) rfl rfl HF (fun _ _ _ h => h) (.inl ⟨by rfl, ?_⟩) (by first | assumption | rfl) ?_
    rotate_left
    · intro w hS; try subst hS
      go_simp; try with_reducible rfl
    try simp only [Act.put, List.setIfInBounds_toArray, List.set_cons_zero, List.set_cons_succ]
    refine AnyH.take (i := 4) (d := some 2) (v := ?_) (by kernel_rfl) rfl rfl HF (fun _ _ _ h => h) (.inl ⟨by rfl, ?_⟩) (by first | assumption | rfl) ?_
    rotate_left
    · intro w hS; try subst hS
      go_simp; try with_reducible rfl
    try simp only [Act.put, List.setIfInBounds_toArray, List.set_cons_zero, List.set_cons_succ]
    refine AnyH.take (i := 5) (d := some 3) (v := ?_) (by kernel_rfl) rfl rfl HF (fun _ _ _ h => h) (.inl ⟨by rfl, ?_⟩) (by first | assumption | rfl) ?_
    rotate_left
    · intro w hS; try subst hS
      go_simp; try with_reducible rfl
    try simp only [Act.put, List.setIfInBounds_toArray, List.set_cons_zero, List.set_cons_succ]
    refine AnyH.done (by kernel_rfl) ?_
    clear n1 n3
    go_wp2_with fail
    go_ret2
    exact ⟨rfl, Below.after HB.out S1⟩
  · go_simp
    obtain ⟨wb, hwb, KB, SB, LB⟩ := boxN SC (Nat.le_refl _)
    rw [hwb]
    clear hwb
    have SC := SB
    refine hK _ _ SC ?_
    clear hK K
    obtain ⟨z, hz, KZ, BZ, ⟨f0, f1, f2, f3, f4, f5⟩, ⟨x0, x1, x2, x3, x4, x5⟩⟩ := stW KB u
    simp only [w0] at x0 x1 x2 x3 x4 x5
    try simp only [Act.put, List.setIfInBounds_toArray, List.set_cons_zero, List.set_cons_succ]
    refine AnyH.one (i := 12) (by kernel_rfl) (by kernel_rfl) rfl HF (by rfl) (fun K hK => ?_)
    go_simp
    first | ((with_reducible refine And.intro ?hdep ?_); (case hdep => first | rfl | (intro h; cases h))) | skip
    refine callsIn_wide.2 ((HAT.out _ SC).mono ?_)
    rintro e wc ⟨rfl, bc⟩
    have SC := Below.after SC bc
    try (have KB := below_block bc KB; obtain ⟨z, hz, KZ, BZ, ⟨f0, f1, f2, f3, f4, f5⟩, ⟨x0, x1, x2, x3, x4, x5⟩⟩ := stW (show WtC wc _ w0 from KB) u; simp only [w0] at x0 x1 x2 x3 x4 x5)
    clear bc
    refine hK _ _ SC ?_
    clear hK K
    try simp only [Act.put, List.setIfInBounds_toArray, List.set_cons_zero, List.set_cons_succ]
    refine AnyH.take (i := 13) (d := some 8) (v := ?_) (by kernel_rfl) rfl rfl HF (fun _ _ _ h => h) (.inl ⟨by rfl, ?_⟩) (by first | assumption | rfl) ?_
    rotate_left
    · intro w hS; try subst hS
      go_simp; try with_reducible rfl
    try simp only [Act.put, List.setIfInBounds_toArray, List.set_cons_zero, List.set_cons_succ]
    refine AnyH.take (i := 14) (d := some 22) (v := ?_) (by kernel_rfl) rfl rfl HF (fun _ _ _ h => h) (.inl ⟨by rfl, ?_⟩) (by first | assumption | rfl) ?_
    rotate_left
    · intro w hS; try subst hS
      go_simp; try with_reducible rfl
    try simp only [Act.put, List.setIfInBounds_toArray, List.set_cons_zero, List.set_cons_succ]
    refine AnyH.take (i := 15) (d := some 23) (v := ?_) (by kernel_rfl) rfl rfl HF (fun _ _ _ h => h) (.inl ⟨by rfl, ?_⟩) (by first | assumption | rfl) ?_
    rotate_left
    · intro w hS; try subst hS
      go_simp; try with_reducible rfl
    try simp only [Act.put, List.setIfInBounds_toArray, List.set_cons_zero, List.set_cons_succ]
    refine AnyH.one (i := 17) (by kernel_rfl) (by kernel_rfl) rfl HF (by rfl) (fun K hK => ?_)
    go_simp
    have SZ := BZ _ _ SC LB
    refine hK _ _ SZ ?_
    clear hK K
    try simp only [Act.put, List.setIfInBounds_toArray, List.set_cons_zero, List.set_cons_succ]
    refine AnyH.take (i := 18) (d := some 5) (v := ?_) (by kernel_rfl) rfl rfl HF (fun _ _ _ h => h) (.inl ⟨by rfl, ?_⟩) (by first | assumption | rfl) ?_
    rotate_left
    · intro w hS; try subst hS
      go_simp; try with_reducible rfl
    try simp only [Act.put, List.setIfInBounds_toArray, List.set_cons_zero, List.set_cons_succ]
    refine AnyH.done (by kernel_rfl) ?_
    have HB := Lib.hid SZ
    have HKZ := Lib.hid KZ
    clear m0 m1 m3 hz f0 f1 f2 f3 f4 f5 x0 x1 x2 x3 x4 x5 KB KZ BZ SC LB SZ
    have n1 : ∀ w, Below z.heap.size z w → w.cell? ⟨_, 1, none⟩ = some (.int .i64 u.lines) := fun w hw => (WtC.cells (below_block hw HKZ.out)).2.1
    have n3 : ∀ w, Below z.heap.size z w → w.cell? ⟨_, 3, none⟩ = some (.int .i64 u.tail) := fun w hw => (WtC.cells (below_block hw HKZ.out)).2.2.2.1
    go_wp2_with fail
    refine wp_region_anyH (Below z.heap.size z) (by kernel_rfl) ?_
    have S1 : Below z.heap.size z z.drew := (Below.refl _ _).drew
    refine AnyH.take (i := 0) (d := some 26) (v := ?_) (by kernel_rfl) rfl rfl HF (fun _ _ _ h => h) (.inl ⟨by rfl, ?_⟩) (by first | assumption | rfl) ?_
    rotate_left
    · intro w hS; try subst hS
      go_simp; try with_reducible rfl
    try simp only [Act.put, List.setIfInBounds_toArray, List.set_cons_zero, List.set_cons_succ]
    refine AnyH.take (i := 1) (d := some 27) (v := ?_) (by kernel_rfl) rfl rfl HF (fun _ _ _ h => h) (.inl ⟨by rfl, ?_⟩) (by first | assumption | rfl) ?_
    rotate_left
    · intro w hS; try subst hS
      go_simp; try with_reducible rfl
    try simp only [Act.put, List.setIfInBounds_toArray, List.set_cons_zero, List.set_cons_succ]
    refine AnyH.take (i := 2) (d := some 28) (v := ?_) (by kernel_rfl) rfl rfl HF (fun _ _ _ h => h) (.inl ⟨by rfl, ?_⟩) (by first | assumption | rfl) ?_
    rotate_left
    · intro w hS; try subst hS
      go_simp; try with_reducible rfl
    try simp only [Act.put, List.setIfInBounds_toArray, List.set_cons_zero, List.set_cons_succ]
    refine AnyH.take (i := 3) (d := some 29) (v := ?_) (by kernel_rfl) rfl rfl HF (fun _ _ _ h => h) (.inl ⟨by rfl, ?_⟩) (by first | assumption | rfl) ?_
    rotate_left
    · intro w hS; try subst hS
      go_simp; try with_reducible rfl
    try simp only [Act.put, List.setIfInBounds_toArray, List.set_cons_zero, List.set_cons_succ]
    refine AnyH.take (i := 4) (d := some 2) (v := ?_) (by kernel_rfl) rfl rfl HF (fun _ _ _ h => h) (.inl ⟨by rfl, ?_⟩) (by first | assumption | rfl) ?_
    rotate_left
    · intro w hS; try subst hS
      go_simp; try with_reducible rfl
    try simp only [Act.put, List.setIfInBounds_toArray, List.set_cons_zero, List.set_cons_succ]
    refine AnyH.take (i := 5) (d := some 3) (v := ?_) (by kernel_rfl) rfl rfl HF (fun _ _ _ h => h) (.inl ⟨by rfl, ?_⟩) (by first | assumption | rfl) ?_
    rotate_left
    · intro w hS; try subst hS
      go_simp; try with_reducible rfl
    try simp only [Act.put, List.setIfInBounds_toArray, List.set_cons_zero, List.set_cons_succ]
    refine AnyH.done (by kernel_rfl) ?_
    clear n1 n3
    go_wp2_with fail
    go_ret2
    exact ⟨rfl, Below.after HB.out S1⟩
end M
end Go.Proofs.Ytjbllcakaljpgaa
