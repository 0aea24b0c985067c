/- access.join: weights joined without a test. Printed by store/mkaccjoin.py. -/
import Derived.Test.YtpjcfepngjpfbaaWJoin
namespace Go.Proofs.Ytpjcfepngjpfbaa
open Go.RowKit Go.Lib
namespace M
attribute [local go_sem] Oper.semAt_some
def PPk (n0 : Nat) (v1 v2 : Value) (j : Nat) (v : Value) (w : World) : Prop := match j with
  | 18 => v = v1
  | 19 => v = v2
  | 20 => BoxW n0 v w
  | _ => True
theorem PPk.mono {n0 : Nat} {v1 v2 : Value} (j : Nat) (v : Value) (w w' : World) (h : PPk n0 v1 v2 j v w) (hb : Below w.heap.size w w') : PPk n0 v1 v2 j v w' := by
  unfold PPk at *
  split
  · exact h
  · exact h
  · obtain ⟨B, h1, h2, h3⟩ := h
    exact ⟨B, h1, h2, below_block hb h3⟩
  · trivial
set_option maxRecDepth 100000 in
set_option maxHeartbeats 4000000 in
theorem ajoin_any (W : World) {a b : Wt} (ha : WtOk a) (hb : WtOk b) (hl : a.len + b.len ≤ 1152921504606846976) :
    Calls Try.prog 78 #[wtV a, wtV b] W fun e w' => e = .returned (wtV (joinW a b)) ∧ Below W.heap.size W w' := by
  have HF : ∀ f, Fence.wide.fn f := fun _ => trivial
  obtain ⟨W1, hW1⟩ : ∃ w, ((W.alloc (.cells #[.int .i64 a.len, .int .i64 a.lines, .int .i64 a.head, .int .i64 a.tail, .int .u64 a.d.v, .int .u64 a.d.s] 88)).alloc (.cells #[.int .i64 b.len, .int .i64 b.lines, .int .i64 b.head, .int .i64 b.tail, .int .u64 b.d.v, .int .u64 b.d.s] 88)).alloc (.cells #[.int .i64 0, .int .i64 0, .int .i64 0, .int .i64 0, .int .u64 0, .int .u64 0] 88) = w := ⟨_, rfl⟩
  have k1 : WtC W1 W.heap.size a := by
    rw [← hW1]
    exact below_block ((Below.refl _ _).alloc (Nat.le_refl _) _) (below_block ((Below.refl _ _).alloc (Nat.le_refl _) _) (heap_new' W _))
  have k2 : WtC W1 (W.heap.size + 1) b := by
    rw [← hW1]
    have := heap_new' (W.alloc (.cells #[.int .i64 a.len, .int .i64 a.lines, .int .i64 a.head, .int .i64 a.tail, .int .u64 a.d.v, .int .u64 a.d.s] 88)) (.cells #[.int .i64 b.len, .int .i64 b.lines, .int .i64 b.head, .int .i64 b.tail, .int .u64 b.d.v, .int .u64 b.d.s] 88)
    rw [World.size_alloc] at this
    exact below_block ((Below.refl _ _).alloc (Nat.le_refl _) _) this
  have k3 : WtC W1 (W.heap.size + 1 + 1) w0 := by
    rw [← hW1]
    have := heap_new' ((W.alloc (.cells #[.int .i64 a.len, .int .i64 a.lines, .int .i64 a.head, .int .i64 a.tail, .int .u64 a.d.v, .int .u64 a.d.s] 88)).alloc (.cells #[.int .i64 b.len, .int .i64 b.lines, .int .i64 b.head, .int .i64 b.tail, .int .u64 b.d.v, .int .u64 b.d.s] 88)) (.cells #[.int .i64 0, .int .i64 0, .int .i64 0, .int .i64 0, .int .u64 0, .int .u64 0] 88)
    simp only [World.size_alloc] at this
    exact this
  have b1 : Below W.heap.size W W1 := by
    rw [← hW1]
    exact (((Below.refl _ W).alloc (Nat.le_refl _) _).alloc (by simp) _).alloc (by simp only [World.size_alloc]; omega) _
  have hsz : W.heap.size + 1 + 1 < W1.heap.size := (Array.getElem?_eq_some_iff.1 k3).1
  have K1 := Lib.hid k1; have K2 := Lib.hid k2; have K3 := Lib.hid k3; have B1 := Lib.hid b1; have HZ := Lib.hid hsz
  have HA := Lib.hid ha; have HB := Lib.hid hb; have HL := Lib.hid hl
  obtain ⟨a0, a1, a2, a3, a4, a5⟩ := k1.cells
  obtain ⟨e0, e1, e2, e3, e4, e5⟩ := k2.cells
  clear k1 k2 k3 b1 ha hb hl hsz
  unfold wtV
  go_enter Try.func78, Try.ntmps78
  go_wp2_with fail
  obtain ⟨w3, hw3⟩ : ∃ w, W1 = w := ⟨_, rfl⟩
  have B3 : Hid (Below W1.heap.size W1 w3) := Lib.hid (by rw [← hw3]; exact Below.refl _ _)
  rw [hw3]
  have hnl : a.len + b.len ≤ 1152921504606846976 := HL.out
  obtain ⟨n, hn⟩ : ∃ n, a.len + b.len = n := ⟨_, rfl⟩
  have HN := Lib.hid hn
  have hwn : IntKind.i64.wrap ((a.len : Int) + (b.len : Int)) = (n : Int) := by rw [IntKind.wrap_i64]; omega
  clear hW1 hw3 hn hnl
  have m : ∀ w, Below w3.heap.size w3 w → WtC w W.heap.size a ∧ WtC w (W.heap.size + 1) b := fun w h => ⟨below_block (Below.after B3.out h) K1.out, below_block (Below.after B3.out h) K2.out⟩
  have ma0 : ∀ w, Below w3.heap.size w3 w → w.cell? ⟨W.heap.size, 0, none⟩ = some (.int .i64 a.len) := fun w h => ((m w h).1.cells).1
  have mb0 : ∀ w, Below w3.heap.size w3 w → w.cell? ⟨W.heap.size + 1, 0, none⟩ = some (.int .i64 b.len) := fun w h => ((m w h).2.cells).1
  have ma1 : ∀ w, Below w3.heap.size w3 w → w.cell? ⟨W.heap.size, 1, none⟩ = some (.int .i64 a.lines) := fun w h => ((m w h).1.cells).2.1
  have ma2 : ∀ w, Below w3.heap.size w3 w → w.cell? ⟨W.heap.size, 2, none⟩ = some (.int .i64 a.head) := fun w h => ((m w h).1.cells).2.2.1
  have ma4 : ∀ w, Below w3.heap.size w3 w → w.cell? ⟨W.heap.size, 4, none⟩ = some (.int .u64 a.d.v) := fun w h => ((m w h).1.cells).2.2.2.2.1
  have ma5 : ∀ w, Below w3.heap.size w3 w → w.cell? ⟨W.heap.size, 5, none⟩ = some (.int .u64 a.d.s) := fun w h => ((m w h).1.cells).2.2.2.2.2
  have mb1 : ∀ w, Below w3.heap.size w3 w → w.cell? ⟨W.heap.size + 1, 1, none⟩ = some (.int .i64 b.lines) := fun w h => ((m w h).2.cells).2.1
  have mb3 : ∀ w, Below w3.heap.size w3 w → w.cell? ⟨W.heap.size + 1, 3, none⟩ = some (.int .i64 b.tail) := fun w h => ((m w h).2.cells).2.2.2.1
  have mb4 : ∀ w, Below w3.heap.size w3 w → w.cell? ⟨W.heap.size + 1, 4, none⟩ = some (.int .u64 b.d.v) := fun w h => ((m w h).2.cells).2.2.2.2.1
  have mb5 : ∀ w, Below w3.heap.size w3 w → w.cell? ⟨W.heap.size + 1, 5, none⟩ = some (.int .u64 b.d.s) := fun w h => ((m w h).2.cells).2.2.2.2.2
  obtain ⟨l, hl⟩ : ∃ l, a.lines + b.lines = l := ⟨_, rfl⟩
  obtain ⟨j, hj⟩ : ∃ j, joinD a.d b.d = j := ⟨_, rfl⟩
  have HLL := Lib.hid hl; have HJ := Lib.hid hj
  have hwl : IntKind.i64.wrap ((a.lines : Int) + (b.lines : Int)) = (l : Int) := by
    have g1 := HA.out.good; have g2 := HB.out.good
    have l1 : a.lines ≤ a.len := by rcases Nat.eq_zero_or_pos a.lines with h | h; omega; have := g1.some h; omega
    have l2 : b.lines ≤ b.len := by rcases Nat.eq_zero_or_pos b.lines with h | h; omega; have := g2.some h; omega
    have := HL.out
    rw [IntKind.wrap_i64]; omega
  clear hl hj m a0 a1 a2 a3 a4 a5 e0 e1 e2 e3 e4 e5
  refine wp_region_anyH (Below w3.heap.size w3) (by kernel_rfl) ?_
  have S0 : Below w3.heap.size w3 w3.drew := (Below.refl _ _).drew
  refine AnyH.take (i := 0) (d := some 6) (v := ?_) (by kernel_rfl) rfl rfl HF (fun _ _ _ h => h) (.inl ⟨by rfl, ?_⟩) (by first | assumption | rfl) ?_
  rotate_left
  · intro w hS; try subst hS
    go_simp; try with_reducible rfl
  try simp only [Act.put, List.setIfInBounds_toArray, List.set_cons_zero, List.set_cons_succ]
  refine AnyH.take (i := 1) (d := some 7) (v := ?_) (by kernel_rfl) rfl rfl HF (fun _ _ _ h => h) (.inl ⟨by rfl, ?_⟩) (by first | assumption | rfl) ?_
  rotate_left
  · intro w hS; try subst hS
    go_simp; try with_reducible rfl
  try simp only [Act.put, List.setIfInBounds_toArray, List.set_cons_zero, List.set_cons_succ]
  refine AnyH.take (i := 2) (d := some 8) (v := ?_) (by kernel_rfl) rfl rfl HF (fun _ _ _ h => h) (.inl ⟨by rfl, ?_⟩) (by first | assumption | rfl) ?_
  rotate_left
  · intro w hS; try subst hS
    go_simp; try with_reducible rfl
  try simp only [Act.put, List.setIfInBounds_toArray, List.set_cons_zero, List.set_cons_succ]
  refine AnyH.take (i := 3) (d := some 9) (v := ?_) (by kernel_rfl) rfl rfl HF (fun _ _ _ h => h) (.inl ⟨by rfl, ?_⟩) (by first | assumption | rfl) ?_
  rotate_left
  · intro w hS; try subst hS
    go_simp; try with_reducible rfl
  try simp only [Act.put, List.setIfInBounds_toArray, List.set_cons_zero, List.set_cons_succ]
  refine AnyH.take (i := 4) (d := some 10) (v := ?_) (by kernel_rfl) rfl rfl HF (fun _ _ _ h => h) (.inl ⟨by rfl, ?_⟩) (by first | assumption | rfl) ?_
  rotate_left
  · intro w hS; try subst hS
    go_simp; try with_reducible rfl
  try simp only [Act.put, List.setIfInBounds_toArray, List.set_cons_zero, List.set_cons_succ]
  refine AnyH.take (i := 5) (d := some 11) (v := ?_) (by kernel_rfl) rfl rfl HF (fun _ _ _ h => h) (.inl ⟨by rfl, ?_⟩) (by first | assumption | rfl) ?_
  rotate_left
  · intro w hS; try subst hS
    go_simp; try with_reducible rfl
  try simp only [Act.put, List.setIfInBounds_toArray, List.set_cons_zero, List.set_cons_succ]
  refine AnyH.take (i := 6) (d := some 12) (v := ?_) (by kernel_rfl) rfl rfl HF (fun _ _ _ h => h) (.inl ⟨by rfl, ?_⟩) (by first | assumption | rfl) ?_
  rotate_left
  · intro w hS; try subst hS
    go_simp; try with_reducible rfl
  try simp only [Act.put, List.setIfInBounds_toArray, List.set_cons_zero, List.set_cons_succ]
  refine AnyH.take (i := 7) (d := some 13) (v := ?_) (by kernel_rfl) rfl rfl HF (fun _ _ _ h => h) (.inl ⟨by rfl, ?_⟩) (by first | assumption | rfl) ?_
  rotate_left
  · intro w hS; try subst hS
    go_simp; try with_reducible rfl
  try simp only [Act.put, List.setIfInBounds_toArray, List.set_cons_zero, List.set_cons_succ]
  refine AnyH.take (i := 8) (d := some 14) (v := ?_) (by kernel_rfl) rfl rfl HF (fun _ _ _ h => h) (.inl ⟨by rfl, ?_⟩) (by first | assumption | rfl) ?_
  rotate_left
  · intro w hS; try subst hS
    go_simp; try with_reducible rfl
  try simp only [Act.put, List.setIfInBounds_toArray, List.set_cons_zero, List.set_cons_succ]
  refine AnyH.take (i := 9) (d := some 15) (v := ?_) (by kernel_rfl) rfl rfl HF (fun _ _ _ h => h) (.inl ⟨by rfl, ?_⟩) (by first | assumption | rfl) ?_
  rotate_left
  · intro w hS; try subst hS
    go_simp; try with_reducible rfl
  try simp only [Act.put, List.setIfInBounds_toArray, List.set_cons_zero, List.set_cons_succ]
  refine AnyH.take (i := 10) (d := some 16) (v := ?_) (by kernel_rfl) rfl rfl HF (fun _ _ _ h => h) (.inl ⟨by rfl, ?_⟩) (by first | assumption | rfl) ?_
  rotate_left
  · intro w hS; try subst hS
    go_simp; try with_reducible rfl
  try simp only [Act.put, List.setIfInBounds_toArray, List.set_cons_zero, List.set_cons_succ]
  refine AnyH.take (i := 11) (d := some 17) (v := ?_) (by kernel_rfl) rfl rfl HF (fun _ _ _ h => h) (.inl ⟨by rfl, ?_⟩) (by first | assumption | rfl) ?_
  rotate_left
  · intro w hS; try subst hS
    go_simp; try with_reducible rfl
  try simp only [Act.put, List.setIfInBounds_toArray, List.set_cons_zero, List.set_cons_succ]
  refine AnyH.take (i := 12) (d := some 18) (v := ?_) (by kernel_rfl) rfl rfl HF (fun _ _ _ h => h) (.inl ⟨by rfl, ?_⟩) (by first | assumption | rfl) ?_
  rotate_left
  · intro w hS; try subst hS
    go_simp; try with_reducible rfl
  try simp only [Act.put, List.setIfInBounds_toArray, List.set_cons_zero, List.set_cons_succ]
  refine AnyH.take (i := 13) (d := some 19) (v := ?_) (by kernel_rfl) rfl rfl HF (fun _ _ _ h => h) (.inl ⟨by rfl, ?_⟩) (by first | assumption | rfl) ?_
  rotate_left
  · intro w hS; try subst hS
    go_simp; try with_reducible rfl
  try simp only [Act.put, List.setIfInBounds_toArray, List.set_cons_zero, List.set_cons_succ]
  refine AnyH.take (i := 14) (d := some 20) (v := ?_) (by kernel_rfl) rfl rfl HF (fun _ _ _ h => h) (.inl ⟨by rfl, ?_⟩) (by first | assumption | rfl) ?_
  rotate_left
  · intro w hS; try subst hS
    go_simp; try with_reducible rfl
  try simp only [Act.put, List.setIfInBounds_toArray, List.set_cons_zero, List.set_cons_succ]
  refine AnyH.take (i := 15) (d := some 21) (v := ?_) (by kernel_rfl) rfl rfl HF (fun _ _ _ h => h) (.inl ⟨by rfl, ?_⟩) (by first | assumption | rfl) ?_
  rotate_left
  · intro w hS; try subst hS
    go_simp; try with_reducible rfl
  try simp only [Act.put, List.setIfInBounds_toArray, List.set_cons_zero, List.set_cons_succ]
  refine AnyH.take (i := 16) (d := some 22) (v := ?_) (by kernel_rfl) rfl rfl HF (fun _ _ _ h => h) (.inl ⟨by rfl, ?_⟩) (by first | assumption | rfl) ?_
  rotate_left
  · intro w hS; try subst hS
    go_simp; try with_reducible rfl
  try simp only [Act.put, List.setIfInBounds_toArray, List.set_cons_zero, List.set_cons_succ]
  refine AnyH.take (i := 17) (d := some 23) (v := ?_) (by kernel_rfl) rfl rfl HF (fun _ _ _ h => h) (.inl ⟨by rfl, ?_⟩) (by first | assumption | rfl) ?_
  rotate_left
  · intro w hS; try subst hS
    go_simp; try with_reducible rfl
  try simp only [Act.put, List.setIfInBounds_toArray, List.set_cons_zero, List.set_cons_succ]
  clear ma0 mb0 ma1 ma2 ma4 ma5 mb1 mb3 mb4 mb5 hwn
  refine AnyH.floatL [18, 19, 20] 21 (fun x => match x with | 19 => [18] | _ => []) (fun x => match x with | 18 => 24 | 19 => 25 | _ => 5) (PPk w3.heap.size (dgV j) (.agg #[.int .i64 n, .int .i64 l, .int .i64 a.head, .int .i64 b.tail, .int .u64 j.v, .int .u64 j.s])) (fun x => x == 20) (by kernel_rfl) (by kernel_rfl) (Nat.le_of_ble_eq_true (by kernel_rfl)) HF S0 (fun x _ v w w' h hb => PPk.mono x v w w' h hb) ?box ?step ?tail
  case box =>
    intro x hx hal v w h
    simp only [List.mem_cons, List.not_mem_nil, or_false] at hx
    rcases hx with rfl | rfl | rfl
    · cases hal
    · cases hal
    · obtain ⟨B, h1, h2, h3⟩ := h; exact ⟨B, h1, (Array.getElem?_eq_some_iff.1 h3).1⟩
  case step =>
    intro x hx vs w hS hP K hK
    simp only [List.mem_cons, List.not_mem_nil, or_false] at hx
    rcases hx with rfl | rfl | rfl
    · refine StepIn.mk rfl (by rfl) ?_
      simp only [putL, List.foldl_nil, List.foldl_cons, Act.put, List.setIfInBounds_toArray, List.set_cons_zero, List.set_cons_succ] at hK ⊢
      go_simp
      refine ⟨rfl, callsIn_wide.2 ((djoin_any w HA.out.dok HB.out.dok).mono ?_)⟩
      rintro e w4 ⟨rfl, b4⟩
      rw [HJ.out]
      exact hK _ _ (Below.after hS b4) b4 rfl (fun h => absurd h (by decide))
    · have h14 : vs 18 = dgV j := hP 18 (by simp)
      refine StepIn.mk rfl (by rfl) ?_
      simp only [putL, List.foldl_nil, List.foldl_cons, h14, Act.put, List.setIfInBounds_toArray, List.set_cons_zero, List.set_cons_succ] at hK ⊢
      unfold dgV at hK ⊢
      go_simp
      exact hK _ _ hS (Below.refl _ _) rfl (fun h => absurd h (by decide))
    · refine StepIn.mk rfl (by rfl) ?_
      simp only [putL, List.foldl_nil, List.foldl_cons, Act.put, List.setIfInBounds_toArray, List.set_cons_zero, List.set_cons_succ] at hK ⊢
      go_simp
      exact hK _ _ (hS.alloc hS.size _) ((Below.refl _ _).alloc (Nat.le_refl _) _) ⟨_, rfl, hS.size, heap_new' _ _⟩ (fun _ => rfl)
  case tail =>
    intro vs w hS hP hD
    have h14 : vs 18 = dgV j := hP 18 (by simp)
    have h15 : vs 19 = _ := hP 19 (by simp)
    obtain ⟨B, e16, lB, nB⟩ : BoxW w3.heap.size (vs 20) w := hP 20 (by simp)
    clear hP hD
    simp only [putL, List.foldl_nil, List.foldl_cons, h14, h15, e16, Act.put, List.setIfInBounds_toArray, List.set_cons_zero, List.set_cons_succ, List.drop_succ_cons, List.drop_zero]
    clear h14 h15 e16 vs
    obtain ⟨x0, x1, x2, x3, x4, x5⟩ := nB.cells
    have f0 := nB.free 0; have f1 := nB.free 1; have f2 := nB.free 2; have f3 := nB.free 3; have f4 := nB.free 4; have f5 := nB.free 5
    have K4 := Lib.hid (nB.set ⟨n, l, a.head, b.tail, j⟩)
    have B4 := Lib.hid (setW_below hS lB ⟨n, l, a.head, b.tail, j⟩)
    obtain ⟨w4, hw4⟩ : ∃ w', setW w B ⟨n, l, a.head, b.tail, j⟩ = w' := ⟨_, rfl⟩
    rw [hw4] at K4 B4
    simp only [setW] at hw4
    have HLB := Lib.hid lB
    simp only [w0] at x0 x1 x2 x3 x4 x5
    have bw4 : Below w3.heap.size w3 w4 := B4.out
    have kw4 : WtC w4 B ⟨n, l, a.head, b.tail, j⟩ := K4.out
    have hB1 : W.heap.size + 1 + 1 < B := by have := HZ.out; have := B3.out.size; omega
    have qa := below_block (Below.after B3.out bw4) K1.out
    have qb := below_block (Below.after B3.out bw4) K2.out
    have QA := Lib.hid qa; have QB := Lib.hid qb; have HB1 := Lib.hid hB1
    obtain ⟨a0, a1, a2, a3, a4, a5⟩ := WtC.cells qa
    obtain ⟨e0, e1, e2, e3, e4, e5⟩ := WtC.cells qb
    have g2 := kw4.free 2; have g3 := kw4.free 3
    obtain ⟨y0, y1, y2, y3, y4, y5⟩ := kw4.cells
    clear qa qb bw4 kw4 lB hB1 nB S0 hS hwl
    by_cases h1 : a.lines = 0
    · have z1 : ((a.lines : Int) == 0) = true := by simp [h1]
      have u1 : IntKind.i64.wrap ((a.len : Int) + (b.head : Int)) = ((a.len + b.head : Nat) : Int) := by
        have l1 : b.head ≤ b.len := by rcases Nat.eq_zero_or_pos b.lines with h | h; have := HB.out.good.none h; omega; have := HB.out.good.some h; omega
        have := HL.out
        rw [IntKind.wrap_i64]; omega
      obtain ⟨x, hx⟩ : ∃ x, a.len + b.head = x := ⟨_, rfl⟩
      rw [hx] at u1
      obtain ⟨w5, hw5⟩ : ∃ w, w4.setCell ⟨B, 2, none⟩ (.int .i64 x) = w := ⟨_, rfl⟩
      have K5 : Hid (WtC w5 B ⟨n, l, x, b.tail, j⟩) := Lib.hid (by rw [← hw5]; exact K4.out.set2 x)
      have B5 : Hid (Below w3.heap.size w3 w5) := Lib.hid (by rw [← hw5]; exact B4.out.setCell (p := ⟨B, 2, none⟩) HLB.out _)
      have k5 := K5.out
      obtain ⟨y0, y1, y2, y3, y4, y5⟩ := k5.cells
      have g3 := k5.free 3
      have qa := below_block (Below.after B3.out B5.out) K1.out
      have qb := below_block (Below.after B3.out B5.out) K2.out
      obtain ⟨a0, a1, a2, a3, a4, a5⟩ := WtC.cells qa
      obtain ⟨e0, e1, e2, e3, e4, e5⟩ := WtC.cells qb
      clear k5 qa qb
      by_cases h2 : b.lines = 0
      · have z2 : ((b.lines : Int) == 0) = true := by simp [h2]
        have u2 : IntKind.i64.wrap ((b.len : Int) + (a.tail : Int)) = ((b.len + a.tail : Nat) : Int) := by
          have l1 : a.tail ≤ a.len := by rcases Nat.eq_zero_or_pos a.lines with h | h; have := HA.out.good.none h; omega; have := HA.out.good.some h; omega
          have := HL.out
          rw [IntKind.wrap_i64]; omega
        obtain ⟨y, hy⟩ : ∃ x, b.len + a.tail = x := ⟨_, rfl⟩
        rw [hy] at u2
        obtain ⟨w6, hw6⟩ : ∃ w, w5.setCell ⟨B, 3, none⟩ (.int .i64 y) = w := ⟨_, rfl⟩
        have K6 : Hid (WtC w6 B ⟨n, l, x, y, j⟩) := Lib.hid (by rw [← hw6]; exact K5.out.set3 y)
        have B6 : Hid (Below w3.heap.size w3 w6) := Lib.hid (by rw [← hw6]; exact B5.out.setCell (p := ⟨B, 3, none⟩) HLB.out _)
        have k6 := K6.out
        obtain ⟨y0, y1, y2, y3, y4, y5⟩ := k6.cells
        clear k6
        have HX : Hid (joinW a b = ⟨n, l, x, y, j⟩) := Lib.hid (by unfold joinW; rw [HN.out, HLL.out, HJ.out, if_pos h1, hx, if_pos h2, hy])
        have k0 : WtC w6 (W.heap.size + 1 + 1) w0 := below_block (Below.after B3.out B6.out) K3.out
        obtain ⟨r0, r1, r2, r3, r4, r5⟩ := k0.cells
        have t0 := k0.free 0; have t1 := k0.free 1; have t2 := k0.free 2; have t3 := k0.free 3; have t4 := k0.free 4; have t5 := k0.free 5
        simp only [w0] at r0 r1 r2 r3 r4 r5
        have KF := Lib.hid (k0.set ⟨n, l, x, y, j⟩)
        have BF := Lib.hid (setW_below (Below.after B1.out (Below.after B3.out B6.out)) (g := W.heap.size + 1 + 1) (by omega) ⟨n, l, x, y, j⟩)
        obtain ⟨w9, hw9⟩ : ∃ w', setW w6 (W.heap.size + 1 + 1) ⟨n, l, x, y, j⟩ = w' := ⟨_, rfl⟩
        rw [hw9] at KF BF
        simp only [setW] at hw9
        clear k0 h1 h2
        gi_wp2_with fail
        go_wp2_with fail
        obtain ⟨c0, c1, c2, c3, c4, c5⟩ := KF.out.cells
        exact bodyPost_ret (v := .agg #[.int .i64 n, .int .i64 l, .int .i64 x, .int .i64 y, .int .u64 j.v, .int .u64 j.s]) (by simp [results, Try.results78, go_sem, c0, c1, c2, c3, c4, c5]) rfl ⟨by rw [HX.out], BF.out⟩
      · have z2 : ((b.lines : Int) == 0) = false := by simp; omega
        have HX : Hid (joinW a b = ⟨n, l, x, b.tail, j⟩) := Lib.hid (by unfold joinW; rw [HN.out, HLL.out, HJ.out, if_pos h1, hx, if_neg h2])
        have k0 : WtC w5 (W.heap.size + 1 + 1) w0 := below_block (Below.after B3.out B5.out) K3.out
        obtain ⟨r0, r1, r2, r3, r4, r5⟩ := k0.cells
        have t0 := k0.free 0; have t1 := k0.free 1; have t2 := k0.free 2; have t3 := k0.free 3; have t4 := k0.free 4; have t5 := k0.free 5
        simp only [w0] at r0 r1 r2 r3 r4 r5
        have KF := Lib.hid (k0.set ⟨n, l, x, b.tail, j⟩)
        have BF := Lib.hid (setW_below (Below.after B1.out (Below.after B3.out B5.out)) (g := W.heap.size + 1 + 1) (by omega) ⟨n, l, x, b.tail, j⟩)
        obtain ⟨w9, hw9⟩ : ∃ w', setW w5 (W.heap.size + 1 + 1) ⟨n, l, x, b.tail, j⟩ = w' := ⟨_, rfl⟩
        rw [hw9] at KF BF
        simp only [setW] at hw9
        clear k0 h1 h2
        gi_wp2_with fail
        go_wp2_with fail
        obtain ⟨c0, c1, c2, c3, c4, c5⟩ := KF.out.cells
        exact bodyPost_ret (v := .agg #[.int .i64 n, .int .i64 l, .int .i64 x, .int .i64 b.tail, .int .u64 j.v, .int .u64 j.s]) (by simp [results, Try.results78, go_sem, c0, c1, c2, c3, c4, c5]) rfl ⟨by rw [HX.out], BF.out⟩
    · have z1 : ((a.lines : Int) == 0) = false := by simp; omega
      have K5 := K4; have B5 := B4
      obtain ⟨w5, hw5⟩ : ∃ w, w4 = w := ⟨_, rfl⟩
      subst hw5
      by_cases h2 : b.lines = 0
      · have z2 : ((b.lines : Int) == 0) = true := by simp [h2]
        have u2 : IntKind.i64.wrap ((b.len : Int) + (a.tail : Int)) = ((b.len + a.tail : Nat) : Int) := by
          have l1 : a.tail ≤ a.len := by rcases Nat.eq_zero_or_pos a.lines with h | h; have := HA.out.good.none h; omega; have := HA.out.good.some h; omega
          have := HL.out
          rw [IntKind.wrap_i64]; omega
        obtain ⟨y, hy⟩ : ∃ x, b.len + a.tail = x := ⟨_, rfl⟩
        rw [hy] at u2
        obtain ⟨w6, hw6⟩ : ∃ w, w4.setCell ⟨B, 3, none⟩ (.int .i64 y) = w := ⟨_, rfl⟩
        have K6 : Hid (WtC w6 B ⟨n, l, a.head, y, j⟩) := Lib.hid (by rw [← hw6]; exact K5.out.set3 y)
        have B6 : Hid (Below w3.heap.size w3 w6) := Lib.hid (by rw [← hw6]; exact B5.out.setCell (p := ⟨B, 3, none⟩) HLB.out _)
        have k6 := K6.out
        obtain ⟨y0, y1, y2, y3, y4, y5⟩ := k6.cells
        clear k6
        have HX : Hid (joinW a b = ⟨n, l, a.head, y, j⟩) := Lib.hid (by unfold joinW; rw [HN.out, HLL.out, HJ.out, if_neg h1, if_pos h2, hy])
        have k0 : WtC w6 (W.heap.size + 1 + 1) w0 := below_block (Below.after B3.out B6.out) K3.out
        obtain ⟨r0, r1, r2, r3, r4, r5⟩ := k0.cells
        have t0 := k0.free 0; have t1 := k0.free 1; have t2 := k0.free 2; have t3 := k0.free 3; have t4 := k0.free 4; have t5 := k0.free 5
        simp only [w0] at r0 r1 r2 r3 r4 r5
        have KF := Lib.hid (k0.set ⟨n, l, a.head, y, j⟩)
        have BF := Lib.hid (setW_below (Below.after B1.out (Below.after B3.out B6.out)) (g := W.heap.size + 1 + 1) (by omega) ⟨n, l, a.head, y, j⟩)
        obtain ⟨w9, hw9⟩ : ∃ w', setW w6 (W.heap.size + 1 + 1) ⟨n, l, a.head, y, j⟩ = w' := ⟨_, rfl⟩
        rw [hw9] at KF BF
        simp only [setW] at hw9
        clear k0 h1 h2
        gi_wp2_with fail
        go_wp2_with fail
        obtain ⟨c0, c1, c2, c3, c4, c5⟩ := KF.out.cells
        exact bodyPost_ret (v := .agg #[.int .i64 n, .int .i64 l, .int .i64 a.head, .int .i64 y, .int .u64 j.v, .int .u64 j.s]) (by simp [results, Try.results78, go_sem, c0, c1, c2, c3, c4, c5]) rfl ⟨by rw [HX.out], BF.out⟩
      · have z2 : ((b.lines : Int) == 0) = false := by simp; omega
        have HX : Hid (joinW a b = ⟨n, l, a.head, b.tail, j⟩) := Lib.hid (by unfold joinW; rw [HN.out, HLL.out, HJ.out, if_neg h1, if_neg h2])
        have k0 : WtC w4 (W.heap.size + 1 + 1) w0 := below_block (Below.after B3.out B4.out) K3.out
        obtain ⟨r0, r1, r2, r3, r4, r5⟩ := k0.cells
        have t0 := k0.free 0; have t1 := k0.free 1; have t2 := k0.free 2; have t3 := k0.free 3; have t4 := k0.free 4; have t5 := k0.free 5
        simp only [w0] at r0 r1 r2 r3 r4 r5
        have KF := Lib.hid (k0.set ⟨n, l, a.head, b.tail, j⟩)
        have BF := Lib.hid (setW_below (Below.after B1.out (Below.after B3.out B4.out)) (g := W.heap.size + 1 + 1) (by omega) ⟨n, l, a.head, b.tail, j⟩)
        obtain ⟨w9, hw9⟩ : ∃ w', setW w4 (W.heap.size + 1 + 1) ⟨n, l, a.head, b.tail, j⟩ = w' := ⟨_, rfl⟩
        rw [hw9] at KF BF
        simp only [setW] at hw9
        clear k0 h1 h2
        gi_wp2_with fail
        go_wp2_with fail
        obtain ⟨c0, c1, c2, c3, c4, c5⟩ := KF.out.cells
        exact bodyPost_ret (v := .agg #[.int .i64 n, .int .i64 l, .int .i64 a.head, .int .i64 b.tail, .int .u64 j.v, .int .u64 j.s]) (by simp [results, Try.results78, go_sem, c0, c1, c2, c3, c4, c5]) rfl ⟨by rw [HX.out], BF.out⟩
end M
end Go.Proofs.Ytpjcfepngjpfbaa
