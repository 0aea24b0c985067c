/- access.join: weights joined without a test. Printed by store/mkaccjoin.py.
append, of which the run is known; append that tells whether the block is new; a slice's prefix.
access.Weight: the weight of a range.
append to a list of the call's own, where the old list stands, too; what stands where blocks of some types turn. No program. -/
import Derived.Test.YtpjcfepngjpfbaaWtA
import Derived.Test.YtpjcfepngjpfbaaParts0
import Derived.Test.YtpjcfepngjpfbaaCom
import Derived.Deep.DeepAppendRoom
import Derived.Test.YtpjcfepngjpfbaaParts
set_option linter.unusedVariables false
set_option linter.unusedSimpArgs false
namespace Go.Proofs.Ytpjcfepngjpfbaa
open Go.RowKit Go.Lib
namespace M
attribute [local go_sem] Oper.semAt_some
def PPk (n0 : Nat) (v1 v2 : Value) (j : Nat) (v : Value) (w : World) : Prop := match j with
  | 18 => v = v1
  | 19 => v = v2
  | 20 => BoxW n0 v w
  | _ => True
theorem PPk.mono {n0 : Nat} {v1 v2 : Value} (j : Nat) (v : Value) (w w' : World) (h : PPk n0 v1 v2 j v w) (hb : Below w.heap.size w w') : PPk n0 v1 v2 j v w' := by
  unfold PPk at *
  split
  · exact h
  · exact h
  · obtain ⟨B, h1, h2, h3⟩ := h
    exact ⟨B, h1, h2, below_block hb h3⟩
  · trivial
set_option maxRecDepth 100000 in
set_option maxHeartbeats 4000000 in
theorem ajoin_any (W : World) {a b : Wt} (ha : WtOk a) (hb : WtOk b) (hl : a.len + b.len ≤ 1152921504606846976) :
    Calls Try.prog 78 #[wtV a, wtV b] W fun e w' => e = .returned (wtV (joinW a b)) ∧ Below W.heap.size W w' := by
  have HF : ∀ f, Fence.wide.fn f := fun _ => trivial
  obtain ⟨W1, hW1⟩ : ∃ w, ((W.alloc (.cells #[.int .i64 a.len, .int .i64 a.lines, .int .i64 a.head, .int .i64 a.tail, .int .u64 a.d.v, .int .u64 a.d.s] 88)).alloc (.cells #[.int .i64 b.len, .int .i64 b.lines, .int .i64 b.head, .int .i64 b.tail, .int .u64 b.d.v, .int .u64 b.d.s] 88)).alloc (.cells #[.int .i64 0, .int .i64 0, .int .i64 0, .int .i64 0, .int .u64 0, .int .u64 0] 88) = w := ⟨_, rfl⟩
  have k1 : WtC W1 W.heap.size a := by
    rw [← hW1]
    exact below_block ((Below.refl _ _).alloc (Nat.le_refl _) _) (below_block ((Below.refl _ _).alloc (Nat.le_refl _) _) (heap_new' W _))
  have k2 : WtC W1 (W.heap.size + 1) b := by
    rw [← hW1]
    have := heap_new' (W.alloc (.cells #[.int .i64 a.len, .int .i64 a.lines, .int .i64 a.head, .int .i64 a.tail, .int .u64 a.d.v, .int .u64 a.d.s] 88)) (.cells #[.int .i64 b.len, .int .i64 b.lines, .int .i64 b.head, .int .i64 b.tail, .int .u64 b.d.v, .int .u64 b.d.s] 88)
    rw [World.size_alloc] at this
    exact below_block ((Below.refl _ _).alloc (Nat.le_refl _) _) this
  have k3 : WtC W1 (W.heap.size + 1 + 1) w0 := by
    rw [← hW1]
    have := heap_new' ((W.alloc (.cells #[.int .i64 a.len, .int .i64 a.lines, .int .i64 a.head, .int .i64 a.tail, .int .u64 a.d.v, .int .u64 a.d.s] 88)).alloc (.cells #[.int .i64 b.len, .int .i64 b.lines, .int .i64 b.head, .int .i64 b.tail, .int .u64 b.d.v, .int .u64 b.d.s] 88)) (.cells #[.int .i64 0, .int .i64 0, .int .i64 0, .int .i64 0, .int .u64 0, .int .u64 0] 88)
    simp only [World.size_alloc] at this
    exact this
  have b1 : Below W.heap.size W W1 := by
    rw [← hW1]
    exact (((Below.refl _ W).alloc (Nat.le_refl _) _).alloc (by simp) _).alloc (by simp only [World.size_alloc]; omega) _
  have hsz : W.heap.size + 1 + 1 < W1.heap.size := (Array.getElem?_eq_some_iff.1 k3).1
  have K1 := Lib.hid k1; have K2 := Lib.hid k2; have K3 := Lib.hid k3; have B1 := Lib.hid b1; have HZ := Lib.hid hsz
  have HA := Lib.hid ha; have HB := Lib.hid hb; have HL := Lib.hid hl
  obtain ⟨a0, a1, a2, a3, a4, a5⟩ := k1.cells
  obtain ⟨e0, e1, e2, e3, e4, e5⟩ := k2.cells
  clear k1 k2 k3 b1 ha hb hl hsz
  unfold wtV
  go_enter Try.func78, Try.ntmps78
  go_wp2_with fail
  obtain ⟨w3, hw3⟩ : ∃ w, W1 = w := ⟨_, rfl⟩
  have B3 : Hid (Below W1.heap.size W1 w3) := Lib.hid (by rw [← hw3]; exact Below.refl _ _)
  rw [hw3]
  have hnl : a.len + b.len ≤ 1152921504606846976 := HL.out
  obtain ⟨n, hn⟩ : ∃ n, a.len + b.len = n := ⟨_, rfl⟩
  have HN := Lib.hid hn
  have hwn : IntKind.i64.wrap ((a.len : Int) + (b.len : Int)) = (n : Int) := by rw [IntKind.wrap_i64]; omega
  clear hW1 hw3 hn hnl
  have m : ∀ w, Below w3.heap.size w3 w → WtC w W.heap.size a ∧ WtC w (W.heap.size + 1) b := fun w h => ⟨below_block (Below.after B3.out h) K1.out, below_block (Below.after B3.out h) K2.out⟩
  have ma0 : ∀ w, Below w3.heap.size w3 w → w.cell? ⟨W.heap.size, 0, none⟩ = some (.int .i64 a.len) := fun w h => ((m w h).1.cells).1
  have mb0 : ∀ w, Below w3.heap.size w3 w → w.cell? ⟨W.heap.size + 1, 0, none⟩ = some (.int .i64 b.len) := fun w h => ((m w h).2.cells).1
  have ma1 : ∀ w, Below w3.heap.size w3 w → w.cell? ⟨W.heap.size, 1, none⟩ = some (.int .i64 a.lines) := fun w h => ((m w h).1.cells).2.1
  have ma2 : ∀ w, Below w3.heap.size w3 w → w.cell? ⟨W.heap.size, 2, none⟩ = some (.int .i64 a.head) := fun w h => ((m w h).1.cells).2.2.1
  have ma4 : ∀ w, Below w3.heap.size w3 w → w.cell? ⟨W.heap.size, 4, none⟩ = some (.int .u64 a.d.v) := fun w h => ((m w h).1.cells).2.2.2.2.1
  have ma5 : ∀ w, Below w3.heap.size w3 w → w.cell? ⟨W.heap.size, 5, none⟩ = some (.int .u64 a.d.s) := fun w h => ((m w h).1.cells).2.2.2.2.2
  have mb1 : ∀ w, Below w3.heap.size w3 w → w.cell? ⟨W.heap.size + 1, 1, none⟩ = some (.int .i64 b.lines) := fun w h => ((m w h).2.cells).2.1
  have mb3 : ∀ w, Below w3.heap.size w3 w → w.cell? ⟨W.heap.size + 1, 3, none⟩ = some (.int .i64 b.tail) := fun w h => ((m w h).2.cells).2.2.2.1
  have mb4 : ∀ w, Below w3.heap.size w3 w → w.cell? ⟨W.heap.size + 1, 4, none⟩ = some (.int .u64 b.d.v) := fun w h => ((m w h).2.cells).2.2.2.2.1
  have mb5 : ∀ w, Below w3.heap.size w3 w → w.cell? ⟨W.heap.size + 1, 5, none⟩ = some (.int .u64 b.d.s) := fun w h => ((m w h).2.cells).2.2.2.2.2
  obtain ⟨l, hl⟩ : ∃ l, a.lines + b.lines = l := ⟨_, rfl⟩
  obtain ⟨j, hj⟩ : ∃ j, joinD a.d b.d = j := ⟨_, rfl⟩
  have HLL := Lib.hid hl; have HJ := Lib.hid hj
  have hwl : IntKind.i64.wrap ((a.lines : Int) + (b.lines : Int)) = (l : Int) := by
    have g1 := HA.out.good; have g2 := HB.out.good
    have l1 : a.lines ≤ a.len := by rcases Nat.eq_zero_or_pos a.lines with h | h; omega; have := g1.some h; omega
    have l2 : b.lines ≤ b.len := by rcases Nat.eq_zero_or_pos b.lines with h | h; omega; have := g2.some h; omega
    have := HL.out
    rw [IntKind.wrap_i64]; omega
  clear hl hj m a0 a1 a2 a3 a4 a5 e0 e1 e2 e3 e4 e5
  refine wp_region_anyH (Below w3.heap.size w3) (by kernel_rfl) ?_
  have S0 : Below w3.heap.size w3 w3.drew := (Below.refl _ _).drew
  refine AnyH.take (i := 0) (d := some 6) (v := ?_) (by kernel_rfl) rfl rfl HF (fun _ _ _ h => h) (.inl ⟨by rfl, ?_⟩) (by first | assumption | rfl) ?_
  rotate_left
  · intro w hS; try subst hS
    go_simp; try with_reducible rfl
  try simp only [Act.put, List.setIfInBounds_toArray, List.set_cons_zero, List.set_cons_succ]
  refine AnyH.take (i := 1) (d := some 7) (v := ?_) (by kernel_rfl) rfl rfl HF (fun _ _ _ h => h) (.inl ⟨by rfl, ?_⟩) (by first | assumption | rfl) ?_
  rotate_left
  · intro w hS; try subst hS
    go_simp; try with_reducible rfl
  try simp only [Act.put, List.setIfInBounds_toArray, List.set_cons_zero, List.set_cons_succ]
  refine AnyH.take (i := 2) (d := some 8) (v := ?_) (by kernel_rfl) rfl rfl HF (fun _ _ _ h => h) (.inl ⟨by rfl, ?_⟩) (by first | assumption | rfl) ?_
  rotate_left
  · intro w hS; try subst hS
    go_simp; try with_reducible rfl
  try simp only [Act.put, List.setIfInBounds_toArray, List.set_cons_zero, List.set_cons_succ]
  refine AnyH.take (i := 3) (d := some 9) (v := ?_) (by kernel_rfl) rfl rfl HF (fun _ _ _ h => h) (.inl ⟨by rfl, ?_⟩) (by first | assumption | rfl) ?_
  rotate_left
  · intro w hS; try subst hS
    go_simp; try with_reducible rfl
  try simp only [Act.put, List.setIfInBounds_toArray, List.set_cons_zero, List.set_cons_succ]
  refine AnyH.take (i := 4) (d := some 10) (v := ?_) (by kernel_rfl) rfl rfl HF (fun _ _ _ h => h) (.inl ⟨by rfl, ?_⟩) (by first | assumption | rfl) ?_
  rotate_left
  · intro w hS; try subst hS
    go_simp; try with_reducible rfl
  try simp only [Act.put, List.setIfInBounds_toArray, List.set_cons_zero, List.set_cons_succ]
  refine AnyH.take (i := 5) (d := some 11) (v := ?_) (by kernel_rfl) rfl rfl HF (fun _ _ _ h => h) (.inl ⟨by rfl, ?_⟩) (by first | assumption | rfl) ?_
  rotate_left
  · intro w hS; try subst hS
    go_simp; try with_reducible rfl
  try simp only [Act.put, List.setIfInBounds_toArray, List.set_cons_zero, List.set_cons_succ]
  refine AnyH.take (i := 6) (d := some 12) (v := ?_) (by kernel_rfl) rfl rfl HF (fun _ _ _ h => h) (.inl ⟨by rfl, ?_⟩) (by first | assumption | rfl) ?_
  rotate_left
  · intro w hS; try subst hS
    go_simp; try with_reducible rfl
  try simp only [Act.put, List.setIfInBounds_toArray, List.set_cons_zero, List.set_cons_succ]
  refine AnyH.take (i := 7) (d := some 13) (v := ?_) (by kernel_rfl) rfl rfl HF (fun _ _ _ h => h) (.inl ⟨by rfl, ?_⟩) (by first | assumption | rfl) ?_
  rotate_left
  · intro w hS; try subst hS
    go_simp; try with_reducible rfl
  try simp only [Act.put, List.setIfInBounds_toArray, List.set_cons_zero, List.set_cons_succ]
  refine AnyH.take (i := 8) (d := some 14) (v := ?_) (by kernel_rfl) rfl rfl HF (fun _ _ _ h => h) (.inl ⟨by rfl, ?_⟩) (by first | assumption | rfl) ?_
  rotate_left
  · intro w hS; try subst hS
    go_simp; try with_reducible rfl
  try simp only [Act.put, List.setIfInBounds_toArray, List.set_cons_zero, List.set_cons_succ]
  refine AnyH.take (i := 9) (d := some 15) (v := ?_) (by kernel_rfl) rfl rfl HF (fun _ _ _ h => h) (.inl ⟨by rfl, ?_⟩) (by first | assumption | rfl) ?_
  rotate_left
  · intro w hS; try subst hS
    go_simp; try with_reducible rfl
  try simp only [Act.put, List.setIfInBounds_toArray, List.set_cons_zero, List.set_cons_succ]
  refine AnyH.take (i := 10) (d := some 16) (v := ?_) (by kernel_rfl) rfl rfl HF (fun _ _ _ h => h) (.inl ⟨by rfl, ?_⟩) (by first | assumption | rfl) ?_
  rotate_left
  · intro w hS; try subst hS
    go_simp; try with_reducible rfl
  try simp only [Act.put, List.setIfInBounds_toArray, List.set_cons_zero, List.set_cons_succ]
  refine AnyH.take (i := 11) (d := some 17) (v := ?_) (by kernel_rfl) rfl rfl HF (fun _ _ _ h => h) (.inl ⟨by rfl, ?_⟩) (by first | assumption | rfl) ?_
  rotate_left
  · intro w hS; try subst hS
    go_simp; try with_reducible rfl
  try simp only [Act.put, List.setIfInBounds_toArray, List.set_cons_zero, List.set_cons_succ]
  refine AnyH.take (i := 12) (d := some 18) (v := ?_) (by kernel_rfl) rfl rfl HF (fun _ _ _ h => h) (.inl ⟨by rfl, ?_⟩) (by first | assumption | rfl) ?_
  rotate_left
  · intro w hS; try subst hS
    go_simp; try with_reducible rfl
  try simp only [Act.put, List.setIfInBounds_toArray, List.set_cons_zero, List.set_cons_succ]
  refine AnyH.take (i := 13) (d := some 19) (v := ?_) (by kernel_rfl) rfl rfl HF (fun _ _ _ h => h) (.inl ⟨by rfl, ?_⟩) (by first | assumption | rfl) ?_
  rotate_left
  · intro w hS; try subst hS
    go_simp; try with_reducible rfl
  try simp only [Act.put, List.setIfInBounds_toArray, List.set_cons_zero, List.set_cons_succ]
  refine AnyH.take (i := 14) (d := some 20) (v := ?_) (by kernel_rfl) rfl rfl HF (fun _ _ _ h => h) (.inl ⟨by rfl, ?_⟩) (by first | assumption | rfl) ?_
  rotate_left
  · intro w hS; try subst hS
    go_simp; try with_reducible rfl
  try simp only [Act.put, List.setIfInBounds_toArray, List.set_cons_zero, List.set_cons_succ]
  refine AnyH.take (i := 15) (d := some 21) (v := ?_) (by kernel_rfl) rfl rfl HF (fun _ _ _ h => h) (.inl ⟨by rfl, ?_⟩) (by first | assumption | rfl) ?_
  rotate_left
  · intro w hS; try subst hS
    go_simp; try with_reducible rfl
  try simp only [Act.put, List.setIfInBounds_toArray, List.set_cons_zero, List.set_cons_succ]
  refine AnyH.take (i := 16) (d := some 22) (v := ?_) (by kernel_rfl) rfl rfl HF (fun _ _ _ h => h) (.inl ⟨by rfl, ?_⟩) (by first | assumption | rfl) ?_
  rotate_left
  · intro w hS; try subst hS
    go_simp; try with_reducible rfl
  try simp only [Act.put, List.setIfInBounds_toArray, List.set_cons_zero, List.set_cons_succ]
  refine AnyH.take (i := 17) (d := some 23) (v := ?_) (by kernel_rfl) rfl rfl HF (fun _ _ _ h => h) (.inl ⟨by rfl, ?_⟩) (by first | assumption | rfl) ?_
  rotate_left
  · intro w hS; try subst hS
    go_simp; try with_reducible rfl
  try simp only [Act.put, List.setIfInBounds_toArray, List.set_cons_zero, List.set_cons_succ]
  clear ma0 mb0 ma1 ma2 ma4 ma5 mb1 mb3 mb4 mb5 hwn
  refine AnyH.floatL [18, 19, 20] 21 (fun x => match x with | 19 => [18] | _ => []) (fun x => match x with | 18 => 24 | 19 => 25 | _ => 5) (PPk w3.heap.size (dgV j) (.agg #[.int .i64 n, .int .i64 l, .int .i64 a.head, .int .i64 b.tail, .int .u64 j.v, .int .u64 j.s])) (fun x => x == 20) (by kernel_rfl) (by kernel_rfl) (Nat.le_of_ble_eq_true (by kernel_rfl)) HF S0 (fun x _ v w w' h hb => PPk.mono x v w w' h hb) ?box ?step ?tail
  case box =>
    intro x hx hal v w h
    simp only [List.mem_cons, List.not_mem_nil, or_false] at hx
    rcases hx with rfl | rfl | rfl
    · cases hal
    · cases hal
    · obtain ⟨B, h1, h2, h3⟩ := h; exact ⟨B, h1, (Array.getElem?_eq_some_iff.1 h3).1⟩
  case step =>
    intro x hx vs w hS hP K hK
    simp only [List.mem_cons, List.not_mem_nil, or_false] at hx
    rcases hx with rfl | rfl | rfl
    · refine StepIn.mk rfl (by rfl) ?_
      simp only [putL, List.foldl_nil, List.foldl_cons, Act.put, List.setIfInBounds_toArray, List.set_cons_zero, List.set_cons_succ] at hK ⊢
      go_simp
      refine ⟨rfl, callsIn_wide.2 ((djoin_any w HA.out.dok HB.out.dok).mono ?_)⟩
      rintro e w4 ⟨rfl, b4⟩
      rw [HJ.out]
      exact hK _ _ (Below.after hS b4) b4 rfl (fun h => absurd h (by decide))
    · have h14 : vs 18 = dgV j := hP 18 (by simp)
      refine StepIn.mk rfl (by rfl) ?_
      simp only [putL, List.foldl_nil, List.foldl_cons, h14, Act.put, List.setIfInBounds_toArray, List.set_cons_zero, List.set_cons_succ] at hK ⊢
      unfold dgV at hK ⊢
      go_simp
      exact hK _ _ hS (Below.refl _ _) rfl (fun h => absurd h (by decide))
    · refine StepIn.mk rfl (by rfl) ?_
      simp only [putL, List.foldl_nil, List.foldl_cons, Act.put, List.setIfInBounds_toArray, List.set_cons_zero, List.set_cons_succ] at hK ⊢
      go_simp
      exact hK _ _ (hS.alloc hS.size _) ((Below.refl _ _).alloc (Nat.le_refl _) _) ⟨_, rfl, hS.size, heap_new' _ _⟩ (fun _ => rfl)
  case tail =>
    intro vs w hS hP hD
    have h14 : vs 18 = dgV j := hP 18 (by simp)
    have h15 : vs 19 = _ := hP 19 (by simp)
    obtain ⟨B, e16, lB, nB⟩ : BoxW w3.heap.size (vs 20) w := hP 20 (by simp)
    clear hP hD
    simp only [putL, List.foldl_nil, List.foldl_cons, h14, h15, e16, Act.put, List.setIfInBounds_toArray, List.set_cons_zero, List.set_cons_succ, List.drop_succ_cons, List.drop_zero]
    clear h14 h15 e16 vs
    obtain ⟨x0, x1, x2, x3, x4, x5⟩ := nB.cells
    have f0 := nB.free 0; have f1 := nB.free 1; have f2 := nB.free 2; have f3 := nB.free 3; have f4 := nB.free 4; have f5 := nB.free 5
    have K4 := Lib.hid (nB.set ⟨n, l, a.head, b.tail, j⟩)
    have B4 := Lib.hid (setW_below hS lB ⟨n, l, a.head, b.tail, j⟩)
    obtain ⟨w4, hw4⟩ : ∃ w', setW w B ⟨n, l, a.head, b.tail, j⟩ = w' := ⟨_, rfl⟩
    rw [hw4] at K4 B4
    simp only [setW] at hw4
    have HLB := Lib.hid lB
    simp only [w0] at x0 x1 x2 x3 x4 x5
    have bw4 : Below w3.heap.size w3 w4 := B4.out
    have kw4 : WtC w4 B ⟨n, l, a.head, b.tail, j⟩ := K4.out
    have hB1 : W.heap.size + 1 + 1 < B := by have := HZ.out; have := B3.out.size; omega
    have qa := below_block (Below.after B3.out bw4) K1.out
    have qb := below_block (Below.after B3.out bw4) K2.out
    have QA := Lib.hid qa; have QB := Lib.hid qb; have HB1 := Lib.hid hB1
    obtain ⟨a0, a1, a2, a3, a4, a5⟩ := WtC.cells qa
    obtain ⟨e0, e1, e2, e3, e4, e5⟩ := WtC.cells qb
    have g2 := kw4.free 2; have g3 := kw4.free 3
    obtain ⟨y0, y1, y2, y3, y4, y5⟩ := kw4.cells
    clear qa qb bw4 kw4 lB hB1 nB S0 hS hwl
    by_cases h1 : a.lines = 0
    · have z1 : ((a.lines : Int) == 0) = true := by simp [h1]
      have u1 : IntKind.i64.wrap ((a.len : Int) + (b.head : Int)) = ((a.len + b.head : Nat) : Int) := by
        have l1 : b.head ≤ b.len := by rcases Nat.eq_zero_or_pos b.lines with h | h; have := HB.out.good.none h; omega; have := HB.out.good.some h; omega
        have := HL.out
        rw [IntKind.wrap_i64]; omega
      obtain ⟨x, hx⟩ : ∃ x, a.len + b.head = x := ⟨_, rfl⟩
      rw [hx] at u1
      obtain ⟨w5, hw5⟩ : ∃ w, w4.setCell ⟨B, 2, none⟩ (.int .i64 x) = w := ⟨_, rfl⟩
      have K5 : Hid (WtC w5 B ⟨n, l, x, b.tail, j⟩) := Lib.hid (by rw [← hw5]; exact K4.out.set2 x)
      have B5 : Hid (Below w3.heap.size w3 w5) := Lib.hid (by rw [← hw5]; exact B4.out.setCell (p := ⟨B, 2, none⟩) HLB.out _)
      have k5 := K5.out
      obtain ⟨y0, y1, y2, y3, y4, y5⟩ := k5.cells
      have g3 := k5.free 3
      have qa := below_block (Below.after B3.out B5.out) K1.out
      have qb := below_block (Below.after B3.out B5.out) K2.out
      obtain ⟨a0, a1, a2, a3, a4, a5⟩ := WtC.cells qa
      obtain ⟨e0, e1, e2, e3, e4, e5⟩ := WtC.cells qb
      clear k5 qa qb
      by_cases h2 : b.lines = 0
      · have z2 : ((b.lines : Int) == 0) = true := by simp [h2]
        have u2 : IntKind.i64.wrap ((b.len : Int) + (a.tail : Int)) = ((b.len + a.tail : Nat) : Int) := by
          have l1 : a.tail ≤ a.len := by rcases Nat.eq_zero_or_pos a.lines with h | h; have := HA.out.good.none h; omega; have := HA.out.good.some h; omega
          have := HL.out
          rw [IntKind.wrap_i64]; omega
        obtain ⟨y, hy⟩ : ∃ x, b.len + a.tail = x := ⟨_, rfl⟩
        rw [hy] at u2
        obtain ⟨w6, hw6⟩ : ∃ w, w5.setCell ⟨B, 3, none⟩ (.int .i64 y) = w := ⟨_, rfl⟩
        have K6 : Hid (WtC w6 B ⟨n, l, x, y, j⟩) := Lib.hid (by rw [← hw6]; exact K5.out.set3 y)
        have B6 : Hid (Below w3.heap.size w3 w6) := Lib.hid (by rw [← hw6]; exact B5.out.setCell (p := ⟨B, 3, none⟩) HLB.out _)
        have k6 := K6.out
        obtain ⟨y0, y1, y2, y3, y4, y5⟩ := k6.cells
        clear k6
        have HX : Hid (joinW a b = ⟨n, l, x, y, j⟩) := Lib.hid (by unfold joinW; rw [HN.out, HLL.out, HJ.out, if_pos h1, hx, if_pos h2, hy])
        have k0 : WtC w6 (W.heap.size + 1 + 1) w0 := below_block (Below.after B3.out B6.out) K3.out
        obtain ⟨r0, r1, r2, r3, r4, r5⟩ := k0.cells
        have t0 := k0.free 0; have t1 := k0.free 1; have t2 := k0.free 2; have t3 := k0.free 3; have t4 := k0.free 4; have t5 := k0.free 5
        simp only [w0] at r0 r1 r2 r3 r4 r5
        have KF := Lib.hid (k0.set ⟨n, l, x, y, j⟩)
        have BF := Lib.hid (setW_below (Below.after B1.out (Below.after B3.out B6.out)) (g := W.heap.size + 1 + 1) (by omega) ⟨n, l, x, y, j⟩)
        obtain ⟨w9, hw9⟩ : ∃ w', setW w6 (W.heap.size + 1 + 1) ⟨n, l, x, y, j⟩ = w' := ⟨_, rfl⟩
        rw [hw9] at KF BF
        simp only [setW] at hw9
        clear k0 h1 h2
        gi_wp2_with fail
        go_wp2_with fail
        obtain ⟨c0, c1, c2, c3, c4, c5⟩ := KF.out.cells
        exact bodyPost_ret (v := .agg #[.int .i64 n, .int .i64 l, .int .i64 x, .int .i64 y, .int .u64 j.v, .int .u64 j.s]) (by simp [results, Try.results78, go_sem, c0, c1, c2, c3, c4, c5]) rfl ⟨by rw [HX.out], BF.out⟩
      · have z2 : ((b.lines : Int) == 0) = false := by simp; omega
        have HX : Hid (joinW a b = ⟨n, l, x, b.tail, j⟩) := Lib.hid (by unfold joinW; rw [HN.out, HLL.out, HJ.out, if_pos h1, hx, if_neg h2])
        have k0 : WtC w5 (W.heap.size + 1 + 1) w0 := below_block (Below.after B3.out B5.out) K3.out
        obtain ⟨r0, r1, r2, r3, r4, r5⟩ := k0.cells
        have t0 := k0.free 0; have t1 := k0.free 1; have t2 := k0.free 2; have t3 := k0.free 3; have t4 := k0.free 4; have t5 := k0.free 5
        simp only [w0] at r0 r1 r2 r3 r4 r5
        have KF := Lib.hid (k0.set ⟨n, l, x, b.tail, j⟩)
        have BF := Lib.hid (setW_below (Below.after B1.out (Below.after B3.out B5.out)) (g := W.heap.size + 1 + 1) (by omega) ⟨n, l, x, b.tail, j⟩)
        obtain ⟨w9, hw9⟩ : ∃ w', setW w5 (W.heap.size + 1 + 1) ⟨n, l, x, b.tail, j⟩ = w' := ⟨_, rfl⟩
        rw [hw9] at KF BF
        simp only [setW] at hw9
        clear k0 h1 h2
        gi_wp2_with fail
        go_wp2_with fail
        obtain ⟨c0, c1, c2, c3, c4, c5⟩ := KF.out.cells
        exact bodyPost_ret (v := .agg #[.int .i64 n, .int .i64 l, .int .i64 x, .int .i64 b.tail, .int .u64 j.v, .int .u64 j.s]) (by simp [results, Try.results78, go_sem, c0, c1, c2, c3, c4, c5]) rfl ⟨by rw [HX.out], BF.out⟩
    · have z1 : ((a.lines : Int) == 0) = false := by simp; omega
      have K5 := K4; have B5 := B4
      obtain ⟨w5, hw5⟩ : ∃ w, w4 = w := ⟨_, rfl⟩
      subst hw5
      by_cases h2 : b.lines = 0
      · have z2 : ((b.lines : Int) == 0) = true := by simp [h2]
        have u2 : IntKind.i64.wrap ((b.len : Int) + (a.tail : Int)) = ((b.len + a.tail : Nat) : Int) := by
          have l1 : a.tail ≤ a.len := by rcases Nat.eq_zero_or_pos a.lines with h | h; have := HA.out.good.none h; omega; have := HA.out.good.some h; omega
          have := HL.out
          rw [IntKind.wrap_i64]; omega
        obtain ⟨y, hy⟩ : ∃ x, b.len + a.tail = x := ⟨_, rfl⟩
        rw [hy] at u2
        obtain ⟨w6, hw6⟩ : ∃ w, w4.setCell ⟨B, 3, none⟩ (.int .i64 y) = w := ⟨_, rfl⟩
        have K6 : Hid (WtC w6 B ⟨n, l, a.head, y, j⟩) := Lib.hid (by rw [← hw6]; exact K5.out.set3 y)
        have B6 : Hid (Below w3.heap.size w3 w6) := Lib.hid (by rw [← hw6]; exact B5.out.setCell (p := ⟨B, 3, none⟩) HLB.out _)
        have k6 := K6.out
        obtain ⟨y0, y1, y2, y3, y4, y5⟩ := k6.cells
        clear k6
        have HX : Hid (joinW a b = ⟨n, l, a.head, y, j⟩) := Lib.hid (by unfold joinW; rw [HN.out, HLL.out, HJ.out, if_neg h1, if_pos h2, hy])
        have k0 : WtC w6 (W.heap.size + 1 + 1) w0 := below_block (Below.after B3.out B6.out) K3.out
        obtain ⟨r0, r1, r2, r3, r4, r5⟩ := k0.cells
        have t0 := k0.free 0; have t1 := k0.free 1; have t2 := k0.free 2; have t3 := k0.free 3; have t4 := k0.free 4; have t5 := k0.free 5
        simp only [w0] at r0 r1 r2 r3 r4 r5
        have KF := Lib.hid (k0.set ⟨n, l, a.head, y, j⟩)
        have BF := Lib.hid (setW_below (Below.after B1.out (Below.after B3.out B6.out)) (g := W.heap.size + 1 + 1) (by omega) ⟨n, l, a.head, y, j⟩)
        obtain ⟨w9, hw9⟩ : ∃ w', setW w6 (W.heap.size + 1 + 1) ⟨n, l, a.head, y, j⟩ = w' := ⟨_, rfl⟩
        rw [hw9] at KF BF
        simp only [setW] at hw9
        clear k0 h1 h2
        gi_wp2_with fail
        go_wp2_with fail
        obtain ⟨c0, c1, c2, c3, c4, c5⟩ := KF.out.cells
        exact bodyPost_ret (v := .agg #[.int .i64 n, .int .i64 l, .int .i64 a.head, .int .i64 y, .int .u64 j.v, .int .u64 j.s]) (by simp [results, Try.results78, go_sem, c0, c1, c2, c3, c4, c5]) rfl ⟨by rw [HX.out], BF.out⟩
      · have z2 : ((b.lines : Int) == 0) = false := by simp; omega
        have HX : Hid (joinW a b = ⟨n, l, a.head, b.tail, j⟩) := Lib.hid (by unfold joinW; rw [HN.out, HLL.out, HJ.out, if_neg h1, if_neg h2])
        have k0 : WtC w4 (W.heap.size + 1 + 1) w0 := below_block (Below.after B3.out B4.out) K3.out
        obtain ⟨r0, r1, r2, r3, r4, r5⟩ := k0.cells
        have t0 := k0.free 0; have t1 := k0.free 1; have t2 := k0.free 2; have t3 := k0.free 3; have t4 := k0.free 4; have t5 := k0.free 5
        simp only [w0] at r0 r1 r2 r3 r4 r5
        have KF := Lib.hid (k0.set ⟨n, l, a.head, b.tail, j⟩)
        have BF := Lib.hid (setW_below (Below.after B1.out (Below.after B3.out B4.out)) (g := W.heap.size + 1 + 1) (by omega) ⟨n, l, a.head, b.tail, j⟩)
        obtain ⟨w9, hw9⟩ : ∃ w', setW w4 (W.heap.size + 1 + 1) ⟨n, l, a.head, b.tail, j⟩ = w' := ⟨_, rfl⟩
        rw [hw9] at KF BF
        simp only [setW] at hw9
        clear k0 h1 h2
        gi_wp2_with fail
        go_wp2_with fail
        obtain ⟨c0, c1, c2, c3, c4, c5⟩ := KF.out.cells
        exact bodyPost_ret (v := .agg #[.int .i64 n, .int .i64 l, .int .i64 a.head, .int .i64 b.tail, .int .u64 j.v, .int .u64 j.s]) (by simp [results, Try.results78, go_sem, c0, c1, c2, c3, c4, c5]) rfl ⟨by rw [HX.out], BF.out⟩
end M
end Go.Proofs.Ytpjcfepngjpfbaa
namespace Go.Proofs.Ytpjcfepngjpfbaa
open Go.RowKit Go.Lib
/-- The first elements of a slice. -/
theorem SlA.prefix {α : Type} {B₀ : Nat} {W : World} {e : TypeId} {size : Nat} {enc : α → List Value} (he : ∀ a, (enc a).length = size) {a : Option Addr} {n cap : Nat} {l : List α} (h : SlA B₀ W e size enc (.slice a n cap) l) {k : Nat} (hk : k ≤ l.length) : SlA B₀ W e size enc (.slice a k cap) (l.take k) := by
  have hl : (l.take k).length = k := by rw [List.length_take]; omega
  have hf : (l.take k).flatMap enc = (l.flatMap enc).take (k * size) := by
    have e1 : l.flatMap enc = (l.take k).flatMap enc ++ (l.drop k).flatMap enc := by rw [← List.flatMap_append, List.take_append_drop]
    rw [e1]
    exact (List.take_left' (by rw [flatMap_len he, hl])).symm
  refine ⟨flatMap_len he _, ?_⟩
  rcases h.2 with ⟨hv, hz⟩ | ⟨g, c, cur, hv, hb, hg, h1, h2, h3, h4⟩
  · cases hv
    left
    have : k = 0 := by omega
    subst this
    exact ⟨rfl, by simp⟩
  · simp only [Value.slice.injEq] at hv
    obtain ⟨rfl, rfl, rfl⟩ := hv
    refine .inr ⟨g, cap, cur, by rw [hl], hb, hg, by rw [hl]; omega, h2, h3, ?_⟩
    rw [hl, hf, ← h4, List.take_take, Nat.min_eq_left (Nat.mul_le_mul_right _ hk)]
/-- append of a list that is not nil to a list of the call's own: the block is the same, or a new one. -/
theorem run_catN {α : Type} {P : Program} {t e : TypeId} {size bytes : Nat} (hE : Elem P t e size bytes) {enc : α → List Value} (he : ∀ a, (enc a).length = size) (h1 : ∀ y, ∀ u ∈ enc y, u.oneCell' = true) (ty : TypeId)
    {B₀ B₁ g0 c0 g cap n0 m : Nat} {w : World} {l l2 : List α} (hS : SlA B₀ w e size enc (.slice (some ⟨g0, 0, none⟩) n0 c0) l) (hn0 : l.length = n0) (hS2 : SlA B₁ w e size enc (.slice (some ⟨g, 0, none⟩) m cap) l2) (hm : l2.length = m) (hbytes : (l.length + l2.length) * bytes ≤ 140737488355328) (hbase : B₀ ≤ w.heap.size) :
    ∃ g' c' w', (Builtin.append_ #[t, t] ty #[.slice (some ⟨g0, 0, none⟩) n0 c0, .slice (some ⟨g, 0, none⟩) m cap]).run P w = .ok (.slice (some ⟨g', 0, none⟩) (n0 + m) c') w' ∧ SlA B₀ w' e size enc (.slice (some ⟨g', 0, none⟩) (n0 + m) c') (l ++ l2) ∧ w.grownBy w' (some g0) ∧ (g' = g0 ∨ w.heap.size ≤ g') := by
  subst hn0 hm
  obtain ⟨ht, i, z, hi, hz, hsz, hby, hzs, h0, hb0⟩ := hE
  have hcells : ∀ j u, (l2.flatMap enc)[j]? = some u → w.cell? ((⟨g, 0, none⟩ : Addr).add j) = some u := fun j u hu => World.ownsRow.cells hS2 (g := g) rfl j u hu
  have hone : ∀ u ∈ l2.flatMap enc, u.oneCell' = true := by
    intro u hu
    obtain ⟨y, -, hy⟩ := List.mem_flatMap.1 hu
    exact h1 y u hy
  by_cases hroom : l.length + l2.length ≤ c0
  · obtain ⟨w', hrun, hown, hg⟩ := run_append_own_spare (P := P) w B₀ t ty e i size ht hi hsz g0 l.length c0 (l.flatMap enc) hS ⟨g, 0, none⟩ l2.length cap (l2.flatMap enc) (flatMap_len he l2) hcells hone hroom
    exact ⟨g0, c0, w', hrun, SlA.append (l2 := l2) hown rfl rfl rfl, hg, .inl rfl⟩
  · obtain ⟨v', w', hrun, hown, hg⟩ := run_append_arg_grows (P := P) w t ty e i z size bytes ht hi hz hsz hby hzs h0 ⟨g0, 0, none⟩ l.length c0 (l.flatMap enc) (flatMap_len he l) (fun j u hu => World.ownsRow.cells hS (g := g0) rfl j u hu) ⟨g, 0, none⟩ l2.length cap (l2.flatMap enc) (flatMap_len he l2) hcells (by omega) (by
      have : (l.length + l2.length) * 1 ≤ (l.length + l2.length) * bytes := Nat.mul_le_mul_left _ hb0
      simp only [maxLen]; omega) hbytes
    have hs2 : SlA w.heap.size w' e size enc v' (l ++ l2) := SlA.append (l2 := l2) hown rfl rfl rfl
    rcases hown.2 with ⟨hv, hz0⟩ | ⟨g', c', cur, rfl, hb', hrest⟩
    · exfalso
      rcases hS.shape with ⟨hv, -⟩ | ⟨g2, c2, hv, h2, -⟩
      · cases hv
      · cases hv; omega
    · exact ⟨g', c', w', hrun, SlA.mono hs2 hbase, ⟨hg.1, hg.2, hg.3, hg.size, fun k hk _ => hg.block k hk (by simp)⟩, .inr hb'⟩
end Go.Proofs.Ytpjcfepngjpfbaa
namespace Go.Proofs.Ytpjcfepngjpfbaa
open Go.RowKit Go.Lib
namespace M
attribute [local go_sem] Oper.semAt_some
set_option maxRecDepth 100000 in
theorem range_yes (W : World) {f n l : Nat} (hl : l ≤ 1152921504606846976) (h : f + n ≤ l) : Calls Try.prog 48 #[.int .i64 f, .int .i64 n, .int .i64 l] W fun e w' => e = .returned .nilIface ∧ w' = W := by
  have h1 : ¬ (f : Int) < 0 := by omega
  have h2 : ¬ (n : Int) < 0 := by omega
  have h3 : ¬ (f : Int) > (l : Int) := by omega
  have h4 : ¬ (n : Int) > (l : Int) - (f : Int) := by omega
  have h5 : ¬ l < f := by omega
  have HV := Lib.hid (valid_yes W hl)
  go_enter Try.func48, Try.ntmps48
  go_wp2_with fail
  refine HV.out.mono ?_; rintro e w ⟨rfl, h⟩; rw [h]; clear h w
  go_wp2_with fail
  go_ret
  exact ⟨rfl, rfl⟩
def PsC (W : World) (g B : Nat) : Prop := W.heap[g]? = some (.cells #[.pointer (some ⟨B, 0, none⟩)] 23 (0, 0))
theorem PsC.cell {W : World} {g B : Nat} (h : PsC W g B) : W.cell? ⟨g, 0, none⟩ = some (.pointer (some ⟨B, 0, none⟩)) := by
  unfold PsC at h
  simp [World.cell?, h]
set_option maxRecDepth 100000 in
set_option maxHeartbeats 4000000 in
theorem wvisit_any {n0 B most : Nat} {E : List En} {W : World} (hs : StAt n0 W B most E) (hwf : Wf E) (hE : E.length ≤ 1048576) {gs gm : Nat} (hgs : PsC W gs B) {acc : List Nat} (hsum : WtC W gm (wt acc)) {x m : Nat} (hx0 : 0 < x) (hx : x ≤ E.length) (hm : 0 < m) (hl : acc.length + m * (txt E x).length ≤ 1152921504606846976) :
    Calls Try.prog 77 #[.int .i64 x, .int .i64 m, .pointer (some ⟨gs, 0, none⟩), .pointer (some ⟨gm, 0, none⟩)] W fun e w' => e = .returned .nilIface ∧ ∃ w1, Below W.heap.size W w1 ∧ w' = setW w1 gm (wt (acc ++ rep m (txt E x))) := by
  obtain ⟨t, ht⟩ : ∃ t, txt E x = t := ⟨_, rfl⟩
  obtain ⟨hw, -, hpos, -⟩ := hwf.get x hx0 hx
  have HW := Lib.hid (weight_any hs hx hE)
  rw [hw, ht] at HW
  rw [ht] at hl hpos
  rw [ht]
  have hmt : t.length * m ≤ 1152921504606846976 := by rw [Nat.mul_comm]; omega
  have hm63 : m ≤ 9223372036854775807 := by
    have := Nat.mul_le_mul_left m hpos
    omega
  have HJ : Hid (∀ w, Calls Try.prog 78 #[wtV (wt acc), wtV (wt (rep m t))] w fun e w' => e = .returned (wtV (wt (acc ++ rep m t))) ∧ Below w.heap.size w w') := Lib.hid (fun w => by
    have h := ajoin_any w (a := wt acc) (b := wt (rep m t)) (wt_ok (by omega)) (wt_ok (by rw [rep_length]; omega)) (by show acc.length + (rep m t).length ≤ _; rw [rep_length]; exact hl)
    rwa [← wt_append] at h)
  obtain ⟨z, hz⟩ : ∃ z, wt (acc ++ rep m t) = z := ⟨_, rfl⟩
  obtain ⟨sa, hsa⟩ : ∃ z, wt acc = z := ⟨_, rfl⟩
  rw [hz, hsa] at HJ
  rw [hsa] at hsum
  rw [hz]
  have KS := Lib.hid hsum; have KP := Lib.hid hgs
  have c0 := hgs.cell
  clear hs hwf hgs hsum hw ht hz hsa
  by_cases h1 : m = 1
  · subst h1
    rw [rep_one] at HJ
    obtain ⟨u, hu⟩ : ∃ u, wt t = u := ⟨_, rfl⟩
    rw [hu] at HJ HW
    unfold wtV at HJ HW
    clear hu
    go_enter Try.func77, Try.ntmps77
    go_wp2_with fail
    refine HW.out.mono ?_; rintro e w1 ⟨rfl, b1⟩
    obtain ⟨wz, w2, hz, hs, kw, bw, ⟨p0, p1, p2, p3, p4, p5⟩, q0, q1, q2, q3, q4, q5⟩ := newWt w1 u
    obtain ⟨x0, x1, x2, x3, x4, x5⟩ := kw.cells
    have B2 := Lib.hid (Below.after b1 bw)
    obtain ⟨y0, y1, y2, y3, y4, y5⟩ := WtC.cells (below_block B2.out KS.out)
    clear b1 kw bw c0
    go_wp2_with fail
    refine (HJ.out w2).mono ?_; rintro e w3 ⟨rfl, b3⟩
    have B3 := Lib.hid (Below.after B2.out b3)
    have k3 : WtC w3 gm sa := below_block B3.out KS.out
    clear hz hs p0 p1 p2 p3 p4 p5 q0 q1 q2 q3 q4 q5 x0 x1 x2 x3 x4 x5 y0 y1 y2 y3 y4 y5 b3
    obtain ⟨y0, y1, y2, y3, y4, y5⟩ := k3.cells
    have f0 := k3.free 0; have f1 := k3.free 1; have f2 := k3.free 2; have f3 := k3.free 3; have f4 := k3.free 4; have f5 := k3.free 5
    clear k3
    go_wp2_with fail
    go_ret
    exact ⟨rfl, w3, B3.out, rfl⟩
  · have h1i : (m : Int) > 1 := by omega
    have HR := Lib.hid (fun w : World => wrep_any w (t := t) hm hm63 hpos hmt)
    obtain ⟨u, hu⟩ : ∃ u, wt t = u := ⟨_, rfl⟩
    obtain ⟨v, hv⟩ : ∃ u, wt (rep m t) = u := ⟨_, rfl⟩
    simp only [hu, hv] at HR
    rw [hu] at HW
    rw [hv] at HJ
    unfold wtV at HJ HW HR
    clear hu hv h1
    go_enter Try.func77, Try.ntmps77
    go_wp2_with fail
    refine HW.out.mono ?_; rintro e w1 ⟨rfl, b1⟩
    obtain ⟨wz, w2, hz, hs, kw, bw, ⟨p0, p1, p2, p3, p4, p5⟩, q0, q1, q2, q3, q4, q5⟩ := newWt w1 u
    obtain ⟨x0, x1, x2, x3, x4, x5⟩ := kw.cells
    have B2 := Lib.hid (Below.after b1 bw); have KW := Lib.hid kw
    have HB1 : Hid (W.heap.size ≤ w1.heap.size) := Lib.hid b1.size
    clear b1 kw bw c0
    go_wp2_with fail
    refine (HR.out w2).mono ?_; rintro e w3 ⟨rfl, b3⟩
    have B3 := Lib.hid (Below.after B2.out b3)
    have k3 : WtC w3 w1.heap.size u := below_block b3 KW.out
    clear hz hs p0 p1 p2 p3 p4 p5 q0 q1 q2 q3 q4 q5 x0 x1 x2 x3 x4 x5 b3
    obtain ⟨y0, y1, y2, y3, y4, y5⟩ := k3.cells
    have f0 := k3.free 0; have f1 := k3.free 1; have f2 := k3.free 2; have f3 := k3.free 3; have f4 := k3.free 4; have f5 := k3.free 5
    obtain ⟨w4, hw4⟩ : ∃ w, setW w3 w1.heap.size v = w := ⟨_, rfl⟩
    have k4 : WtC w4 w1.heap.size v := by rw [← hw4]; exact k3.set v
    have b4 : Below W.heap.size W w4 := by rw [← hw4]; exact setW_below B3.out HB1.out v
    simp only [setW] at hw4
    obtain ⟨x0, x1, x2, x3, x4, x5⟩ := k4.cells
    have B4 := Lib.hid b4
    obtain ⟨z0, z1, z2, z3, z4, z5⟩ := WtC.cells (below_block b4 KS.out)
    clear k3 k4 b4
    go_wp2_with fail
    refine (HJ.out w4).mono ?_; rintro e w5 ⟨rfl, b5⟩
    have B5 := Lib.hid (Below.after B4.out b5)
    have k5 : WtC w5 gm sa := below_block B5.out KS.out
    clear hw4 x0 x1 x2 x3 x4 x5 y0 y1 y2 y3 y4 y5 z0 z1 z2 z3 z4 z5 f0 f1 f2 f3 f4 f5 b5
    obtain ⟨y0, y1, y2, y3, y4, y5⟩ := k5.cells
    have f0 := k5.free 0; have f1 := k5.free 1; have f2 := k5.free 2; have f3 := k5.free 3; have f4 := k5.free 4; have f5 := k5.free 5
    clear k5
    go_wp2_with fail
    go_ret
    exact ⟨rfl, w5, B5.out, rfl⟩
theorem setW_other {W : World} {g k : Nat} {o : Obj} (v : Wt) (hk : k ≠ g) (h : W.heap[k]? = some o) : (setW W g v).heap[k]? = some o := set_other hk (set_other hk (set_other hk (set_other hk (set_other hk (set_other hk h)))))
theorem ne_type {W : World} {g k : Nat} {cs cs' : Array Value} {t t' : TypeId} {fz fz' : Nat × Nat} (h : W.heap[k]? = some (.cells cs t fz)) (h' : W.heap[g]? = some (.cells cs' t' fz')) (ht : t ≠ t') : k ≠ g := fun e => by
  subst e; rw [h] at h'; simp at h'; exact ht h'.2.1
theorem setW_keep {W : World} {g : Nat} {u : Wt} (h : WtC W g u) (v : Wt) {t : TypeId} (ht : t ≠ 88) : KeepT t W (setW W g v) := fun k cs fz hk => setW_other v (ne_type hk h ht) hk
theorem setW_stat {n0 B most : Nat} {W : World} {E : List En} (hs : StAt n0 W B most E) {g : Nat} {u : Wt} (h : WtC W g u) (v : Wt) : StAt n0 (setW W g v) B most E := by
  obtain ⟨lv, mb, k1, k2, k3, k4⟩ := hs
  refine ⟨lv, mb, setW_keep h v (by decide) _ _ _ k1, SlA.keep k2 (setW_keep h v (by decide)), ?_, k4⟩
  obtain ⟨es, c, h5, h6⟩ := k3
  refine ⟨es, c, setW_other v (fun e => ?_) h5, h6⟩
  subst e; unfold WtC at h; rw [h] at h5; cases h5
theorem StAt.kps {n n0 B most : Nat} {A C : World} {E : List En} (hs : StAt n0 A B most E) (h : KpS n A C) : StAt n0 C B most E := by
  obtain ⟨lv, mb, k1, k2, k3, k4⟩ := hs
  refine ⟨lv, mb, h.cells _ (by decide) _ _ _ k1, SlA.keep k2 (h.cells _ (by decide)), ?_, k4⟩
  obtain ⟨es, c, h5, h6⟩ := k3
  exact ⟨es, c, h.others.same _ _ h5 rfl, h6⟩
theorem setW_size (W : World) (g : Nat) (v : Wt) : (setW W g v).heap.size = W.heap.size := by simp [setW]
/-- What the sum's visitor keeps. -/
def IW (n0 B most : Nat) (E : List En) (n1 gs gm gr : Nat) (W0 : World) (acc : List Nat) (w : World) : Prop := StAt n0 w B most E ∧ PsC w gs B ∧ WtC w gm (wt acc) ∧ WtC w gr w0 ∧ Below n1 W0 w
set_option maxRecDepth 100000 in
set_option maxHeartbeats 4000000 in
theorem aweight_any {n0 B most : Nat} {E : List En} {W : World} (hs : StAt n0 W B most E) (hwf : Wf E) (hE : E.length ≤ 1048576) {id frm n : Nat} (hid : id ≤ E.length) (hr : frm + n ≤ (txt E id).length) :
    Calls Try.prog 37 #[.pointer (some ⟨B, 0, none⟩), .int .i64 id, .int .i64 frm, .int .i64 n] W fun e w' => e = .returned (.tuple #[wtV (wt (((txt E id).drop frm).take n)), .nilIface]) ∧ Below W.heap.size W w' := by
  have hmf : ∀ (fn : Fn) (first cap : Array Value) (w : World), (Instr.makeFunc fn first cap).run Try.prog w = .ok (.func fn first cap) w := fun _ _ _ _ => rfl
  obtain ⟨hw, hlen⟩ := hwf.len hid
  have H := Lib.hid hs; have HWF := Lib.hid hwf; have HR := Lib.hid hr
  obtain ⟨W1, hW1⟩ : ∃ w, (W.alloc (.cells #[.pointer (some ⟨B, 0, none⟩)] 23)).alloc (.cells #[.int .i64 0, .int .i64 0, .int .i64 0, .int .i64 0, .int .u64 0, .int .u64 0] 88) = w := ⟨_, rfl⟩
  have k1 : PsC W1 W.heap.size B := by rw [← hW1]; exact below_block ((Below.refl _ _).alloc (Nat.le_refl _) _) (heap_new' W _)
  have k2 : WtC W1 (W.heap.size + 1) w0 := by
    rw [← hW1]
    have := heap_new' (W.alloc (.cells #[.pointer (some ⟨B, 0, none⟩)] 23)) (.cells #[.int .i64 0, .int .i64 0, .int .i64 0, .int .i64 0, .int .u64 0, .int .u64 0] 88)
    rw [World.size_alloc] at this
    exact this
  have b1 : Below W.heap.size W W1 := by rw [← hW1]; exact ((Below.refl _ W).alloc (Nat.le_refl _) _).alloc (by simp) _
  have hz1 : W1.heap.size = W.heap.size + 2 := by rw [← hW1]; simp
  have HW := Lib.hid (weight_any (hs.below b1) hid hE)
  rw [hw] at HW
  obtain ⟨t, ht⟩ : ∃ t, txt E id = t := ⟨_, rfl⟩
  rw [ht] at HW hr hlen ⊢
  have HT := Lib.hid ht
  obtain ⟨u, hu⟩ : ∃ u, wt t = u := ⟨_, rfl⟩
  have hul : u.len = t.length := by rw [← hu]; rfl
  rw [hu] at HW
  unfold wtV at HW
  have HRG := Lib.hid (fun w : World => range_yes w (f := frm) (n := n) (l := u.len) (by omega) (by omega))
  have K1 := Lib.hid k1; have K2 := Lib.hid k2; have B1 := Lib.hid b1; have HZ1 := Lib.hid hz1
  have c0 := k1.cell
  have hnb : n ≤ 1152921504606846976 := by omega
  clear hs hwf hw k1 k2 b1 hz1 ht hu hul hr hlen
  go_enter Try.func37, Try.ntmps37
  go_wp2_with fail
  refine HW.out.mono ?_; rintro e w1 ⟨rfl, b2⟩
  obtain ⟨wz, w2, hz, hs, kw, bw, ⟨p0, p1, p2, p3, p4, p5⟩, q0, q1, q2, q3, q4, q5⟩ := newWt w1 u
  obtain ⟨x0, x1, x2, x3, x4, x5⟩ := kw.cells
  have B2 := Lib.hid (Below.after b2 bw)
  clear b2 kw bw c0
  go_wp2_with fail
  refine (HRG.out w2).mono ?_; rintro e w ⟨rfl, h⟩; rw [h]; clear h w
  clear hW1 hz hs p0 p1 p2 p3 p4 p5 q0 q1 q2 q3 q4 q5 x0 x1 x2 x3 x4 x5
  go_wp2_with fail
  refine (wunit_any w2).mono ?_; rintro e w3 ⟨rfl, b3⟩
  obtain ⟨u0, hu0⟩ : ∃ u, wt [] = u := ⟨_, rfl⟩
  have HU0 := Lib.hid hu0
  rw [hu0]
  unfold wtV
  obtain ⟨wz, w4, hz, hs, kw, bw, ⟨p0, p1, p2, p3, p4, p5⟩, q0, q1, q2, q3, q4, q5⟩ := newWt w3 u0
  obtain ⟨x0, x1, x2, x3, x4, x5⟩ := kw.cells
  have B4 := Lib.hid (Below.after B2.out (Below.after b3 bw))
  have c4 := PsC.cell (show PsC w4 W.heap.size B from below_block B4.out K1.out)
  obtain ⟨gm, hgm⟩ : ∃ g, w3.heap.size = g := ⟨_, rfl⟩
  have HGM : Hid (W.heap.size + 2 ≤ gm) := Lib.hid (by have h1 := B2.out.size; have h2 := b3.size; have h3 := HZ1.out; omega)
  have HI4 : Hid (IW n0 B most E W.heap.size W.heap.size gm (W.heap.size + 1) W [] w4) := Lib.hid (by
    refine ⟨H.out.below (Below.after B1.out B4.out), below_block B4.out K1.out, ?_, below_block B4.out K2.out, Below.after B1.out B4.out⟩
    rw [← hgm, HU0.out]; exact kw)
  have HPA : Hid (Calls Try.prog 76 #[.pointer (some ⟨B, 0, none⟩), .int .i64 id, .int .i64 frm, .int .i64 n, .func (.func 77) #[] #[.pointer (some ⟨W.heap.size, 0, none⟩), .pointer (some ⟨gm, 0, none⟩)]] w4 fun e w' => e = .returned .nilIface ∧ IW n0 B most E W.heap.size W.heap.size gm (W.heap.size + 1) W ([] ++ ((txt E id).drop frm).take n) w') := Lib.hid (by
    refine parts_any HWF.out hE 77 (fun _ _ => by kernel_rfl) _ _ (IW n0 B most E W.heap.size W.heap.size gm (W.heap.size + 1) W) [] (fun acc w h => h.1) ?_ ?_ HI4.out hid HR.out
    · rintro acc w w' ⟨h1, h2, h3, h4, h5⟩ hk
      exact ⟨h1.kps hk, hk.cells _ (by decide) _ _ _ h2, hk.cells _ (by decide) _ _ _ h3, hk.cells _ (by decide) _ _ _ h4, h5.trans (hk.below.mono (Nat.le_trans (Nat.le_trans (Nat.le_add_right _ 2) (by rw [← HZ1.out]; exact Nat.le_refl _)) B4.out.size))⟩
    · rintro acc w x m ⟨h1, h2, h3, h4, h5⟩ hx0 hx hm hl
      refine (wvisit_any h1 HWF.out hE h2 h3 hx0 hx hm (by simp at hl; omega)).mono ?_
      rintro e w' ⟨rfl, w1, b1, rfl⟩
      have k3 : WtC w1 gm (wt acc) := below_block b1 h3
      have k4 : WtC w1 (W.heap.size + 1) w0 := below_block b1 h4
      refine ⟨rfl, ⟨setW_stat (h1.below b1) k3 _, setW_keep k3 _ (by decide) _ _ _ (below_block b1 h2), k3.set _, setW_other _ (by have := HGM.out; omega) k4, ?_⟩, (KeepT.below b1).trans (setW_keep k3 _ (by decide)), by rw [setW_size]; exact b1.size⟩
      exact setW_below (h5.trans (b1.mono h5.size)) (by have := HGM.out; omega) _)
  rw [hgm] at hs p0 p1 p2 p3 p4 p5 q0 q1 q2 q3 q4 q5
  clear x0 x1 x2 x3 x4 x5 kw bw b3 hu0
  go_wp2_with fail
  refine HPA.out.mono ?_
  rintro e w5 ⟨rfl, i1, i2, i3, i4, i5⟩
  rw [List.nil_append, HT.out] at i3
  obtain ⟨v, hv⟩ : ∃ v, wt ((t.drop frm).take n) = v := ⟨_, rfl⟩
  have HV := Lib.hid hv
  rw [hv] at i3
  clear hz hs p0 p1 p2 p3 p4 p5 q0 q1 q2 q3 q4 q5 c4 hgm hv
  obtain ⟨y0, y1, y2, y3, y4, y5⟩ := i3.cells
  obtain ⟨r0, r1, r2, r3, r4, r5⟩ := i4.cells
  simp only [w0] at r0 r1 r2 r3 r4 r5
  have f0 := i4.free 0; have f1 := i4.free 1; have f2 := i4.free 2; have f3 := i4.free 3; have f4 := i4.free 4; have f5 := i4.free 5
  obtain ⟨w6, hw6⟩ : ∃ w, setW w5 (W.heap.size + 1) v = w := ⟨_, rfl⟩
  have k6 : WtC w6 (W.heap.size + 1) v := by rw [← hw6]; exact i4.set v
  have B6 : Hid (Below W.heap.size W w6) := Lib.hid (by rw [← hw6]; exact setW_below i5 (by omega) v)
  simp only [setW] at hw6
  obtain ⟨s0, s1, s2, s3, s4, s5⟩ := k6.cells
  clear i1 i2 i3 i4 i5 k6
  go_wp2_with fail
  exact bodyPost_ret (v := .tuple #[.agg #[.int .i64 v.len, .int .i64 v.lines, .int .i64 v.head, .int .i64 v.tail, .int .u64 v.d.v, .int .u64 v.d.s], .nilIface]) (by simp [results, Try.results37, go_sem, s0, s1, s2, s3, s4, s5]) rfl ⟨by rw [HV.out], B6.out⟩
end M
end Go.Proofs.Ytpjcfepngjpfbaa
namespace Go.Proofs.Ytpjcfepngjpfbaa
open Go.RowKit Go.Lib
theorem run_catK {α : Type} {P : Program} {t e : TypeId} {size bytes : Nat} (hE : Elem P t e size bytes) {enc : α → List Value} (he : ∀ a, (enc a).length = size) (h1 : ∀ y, ∀ u ∈ enc y, u.oneCell' = true) (ty : TypeId)
    {B₀ B₁ g cap m : Nat} {w : World} {v : Value} {l l2 : List α} (hS : SlA B₀ w e size enc v l) (hS2 : SlA B₁ w e size enc (.slice (some ⟨g, 0, none⟩) m cap) l2) (hm : l2.length = m) (hbytes : (l.length + l2.length) * bytes ≤ 140737488355328) (hbase : B₀ ≤ w.heap.size) :
    ∃ v' w', (Builtin.append_ #[t, t] ty #[v, .slice (some ⟨g, 0, none⟩) m cap]).run P w = .ok v' w' ∧ SlA B₀ w' e size enc v' (l ++ l2) ∧ w.grownBy w' v.ownBlock ∧ Below B₀ w w' ∧ SlA B₀ w' e size enc v l := by
  subst hm
  rcases hS.shape with ⟨rfl, rfl⟩ | ⟨g0, c0, rfl, hc1, hc2⟩
  · obtain ⟨v', w', hr, ho, hg, hb⟩ := run_catO hE he h1 ty hS hS2 hbytes hbase
    exact ⟨v', w', hr, ho, hg, hb, SlA.nil _ _ _ _ _⟩
  · have hE' := hE
    obtain ⟨ht, i, z, hi, hz, hsz, hby, hzs, h0, hb0⟩ := hE
    have hcells : ∀ j u, (l2.flatMap enc)[j]? = some u → w.cell? ((⟨g, 0, none⟩ : Addr).add j) = some u := fun j u hu => World.ownsRow.cells hS2 (g := g) rfl j u hu
    have hone : ∀ u ∈ l2.flatMap enc, u.oneCell' = true := by
      intro u hu
      obtain ⟨y, -, hy⟩ := List.mem_flatMap.1 hu
      exact h1 y u hy
    by_cases hroom : l.length + l2.length ≤ c0
    · obtain ⟨w', hrun, hown, hg⟩ := run_append_own_spare (P := P) w B₀ t ty e i size ht hi hsz g0 l.length c0 (l.flatMap enc) hS ⟨g, 0, none⟩ l2.length cap (l2.flatMap enc) (flatMap_len he l2) hcells hone hroom
      have hs2 : SlA B₀ w' e size enc (.slice (some ⟨g0, 0, none⟩) (l.length + l2.length) c0) (l ++ l2) := SlA.append (l2 := l2) hown rfl rfl rfl
      have hp := SlA.prefix he hs2 (k := l.length) (by simp)
      rw [List.take_left' rfl] at hp
      exact ⟨_, w', hrun, hs2, hg, below_own hS hg hbase, hp⟩
    · obtain ⟨v', w', hrun, hown, hg⟩ := run_append_arg_grows (P := P) w t ty e i z size bytes ht hi hz hsz hby hzs h0 ⟨g0, 0, none⟩ l.length c0 (l.flatMap enc) (flatMap_len he l) (fun j u hu => World.ownsRow.cells hS (g := g0) rfl j u hu) ⟨g, 0, none⟩ l2.length cap (l2.flatMap enc) (flatMap_len he l2) hcells (by omega) (by
        have : (l.length + l2.length) * 1 ≤ (l.length + l2.length) * bytes := Nat.mul_le_mul_left _ hb0
        simp only [maxLen]; omega) hbytes
      have hs2 : SlA w.heap.size w' e size enc v' (l ++ l2) := SlA.append (l2 := l2) hown rfl rfl rfl
      exact ⟨v', w', hrun, SlA.mono hs2 hbase, ⟨hg.1, hg.2, hg.3, hg.size, fun k hk _ => hg.block k hk (by simp)⟩, (below_none hg).mono hbase, hS.below (below_none hg)⟩
/-- Nothing but blocks of some types has turned, and none of these below n. -/
structure KpL (ts : List TypeId) (n : Nat) (A B : World) : Prop where
  below : Below n A B
  cells : ∀ t, t ∉ ts → KeepT t A B
  others : KeepsOthers A B
theorem KpL.of {ts : List TypeId} {n : Nat} {A B : World} (h : Below A.heap.size A B) (hn : n ≤ A.heap.size) : KpL ts n A B := ⟨h.mono hn, fun _ _ => KeepT.below h, keepsOthers_below h⟩
theorem KpL.trans {ts : List TypeId} {n : Nat} {A B C : World} (h : KpL ts n A B) (k : KpL ts n B C) : KpL ts n A C := ⟨h.below.trans k.below, fun t ht => (h.cells t ht).trans (k.cells t ht), h.others.trans k.others⟩
theorem KpL.own {α : Type} {ts : List TypeId} {n size : Nat} {e : TypeId} {enc : α → List Value} {A B : World} {v : Value} {l : List α} (hS : SlA n A e size enc v l) (hg : A.grownBy B v.ownBlock) (hn : n ≤ A.heap.size) (he : e ∈ ts) : KpL ts n A B := by
  refine ⟨below_own hS hg hn, fun t ht => keep_own hS hg (fun h => ht (h ▸ he)), ⟨hg.size, fun k o hk ho => ?_⟩⟩
  rw [hg.block k (Array.getElem?_eq_some_iff.1 hk).1 ?_]
  · exact hk
  · rcases hS.2 with ⟨rfl, _⟩ | ⟨g, cap, cur, rfl, _, hgb, _⟩
    · simp [Value.ownBlock]
    · intro e'
      obtain rfl : k = g := by simpa [Value.ownBlock] using e'
      rw [hk] at hgb; cases hgb; cases ho
theorem KpL.sub {ts us : List TypeId} {n m : Nat} {A B : World} (h : KpL ts n A B) (hs : ∀ t ∈ ts, t ∈ us) (hm : m ≤ n) : KpL us m A B := ⟨h.below.mono hm, fun t ht => h.cells t (fun k => ht (hs t k)), h.others⟩
namespace M
theorem StAt.kpl {ts : List TypeId} {n n0 B most : Nat} {A C : World} {E : List En} (hs : StAt n0 A B most E) (h : KpL ts n A C) (h1 : 116 ∉ ts) (h2 : 122 ∉ ts) : StAt n0 C B most E := by
  obtain ⟨lv, mb, k1, k2, k3, k4⟩ := hs
  refine ⟨lv, mb, h.cells _ h1 _ _ _ k1, SlA.keep k2 (h.cells _ h2), ?_, k4⟩
  obtain ⟨es, c, h5, h6⟩ := k3
  exact ⟨es, c, h.others.same _ _ h5 rfl, h6⟩
end M
end Go.Proofs.Ytpjcfepngjpfbaa
