/- The store of rules: add. -/
import Derived.Test.YtpjcfepngjpfbaaStoreFind
import Derived.Test.YtpjcfepngjpfbaaApp
namespace Go.Proofs.Ytpjcfepngjpfbaa
open Go.RowKit
theorem SlA.own_lt {α : Type} {B₀ : Nat} {W : World} {e : TypeId} {size : Nat} {enc : α → List Value} {v : Value} {l : List α} (h : SlA B₀ W e size enc v l) {g : Nat} (hg : v.ownBlock = some g) : g < W.heap.size := by
  rcases h.2 with ⟨rfl, _⟩ | ⟨g', cap, cur, rfl, _, hgb, _⟩
  · simp [Value.ownBlock] at hg
  · obtain rfl : g' = g := by simpa [Value.ownBlock] using hg
    exact (Array.getElem?_eq_some_iff.1 hgb).1
namespace M
attribute [local go_sem] Oper.semAt_some
/-- All cells' blocks stand but the stores' and the entries'. -/
def Kt (A B : World) : Prop := ∀ t : TypeId, t ≠ 116 → t ≠ 122 → ∀ (k : Nat) (cs : Array Value) (fz : Nat × Nat), A.heap[k]? = some (.cells cs t fz) → B.heap[k]? = some (.cells cs t fz)
theorem Kt.of {A B : World} (h : Below A.heap.size A B) : Kt A B := fun _ _ _ _ _ _ e => below_block h e
theorem Kt.trans {A B C : World} (h : Kt A B) (k : Kt B C) : Kt A C := fun t a b i cs fz e => k t a b i cs fz (h t a b i cs fz e)
/-- What floats while an entry is appended. -/
def SAdd (B most mb g : Nat) (lv : Value) (e : En) (w : World) : Prop := StC w B most lv mb ∧ EnC w g e
theorem SAdd.below {B most mb g : Nat} {lv : Value} {e : En} {w w' : World} (h : SAdd B most mb g lv e w) (hb : Below w.heap.size w w') : SAdd B most mb g lv e w' := ⟨below_block hb h.1, below_block hb h.2⟩
set_option maxRecDepth 100000 in
set_option maxHeartbeats 2000000 in
theorem sadd_any {n0 B most : Nat} {W : World} {E : List En} (h : StAt n0 W B most E) (e : En) (hr : e.ru.ok) (hnew : fid e.ru 1 E = 0) (hE : E.length ≤ 1048576) :
    Calls Try.prog 71 #[.pointer (some ⟨B, 0, none⟩), enV e] W fun x w' => x = .returned (.int .i64 (E.length + 1 : Nat)) ∧ StAt n0 w' B most (E ++ [e]) ∧ Below n0 W w' ∧ Kt W w' := by
  have HF : ∀ f, Fence.wide.fn f := fun _ => trivial
  unfold enV
  obtain ⟨W1, hW1⟩ : ∃ w, W.alloc (.cells #[.int .i64 e.ru.kind, .int .u8 e.ru.letter, .int .i64 e.ru.left, .int .i64 e.ru.right, .int .i64 e.ru.times, .int .i64 e.w.len, .int .i64 e.w.lines, .int .i64 e.w.head, .int .i64 e.w.tail, .int .u64 e.w.d.v, .int .u64 e.w.d.s, .int .i64 e.depth, .bool e.even] 122) = w := ⟨_, rfl⟩
  have k1 : EnC W1 W.heap.size e := by rw [← hW1]; exact heap_new' _ _
  have b1 : Below W.heap.size W W1 := by rw [← hW1]; exact (Below.refl _ _).alloc (Nat.le_refl _) _
  have hlt := h.lt
  obtain ⟨lv, mb, z1, z2, z3, z4, z5⟩ := h
  obtain ⟨a, cap, rfl⟩ := z2.len
  have hown : ∀ g, (Value.slice a E.length cap).ownBlock = some g → g < W.heap.size := fun g hg => z2.own_lt hg
  have hBlt : B < W.heap.size := (Array.getElem?_eq_some_iff.1 z1).1
  have hmlt : mb < W.heap.size := z3.lt
  have hBm : B ≠ mb := fun e => by
    obtain ⟨es, c, hm, -⟩ := z3
    unfold StC at z1
    rw [← e, z1] at hm; cases hm
  obtain ⟨w2, hw2⟩ : ∃ w, W1.drew = w := ⟨_, rfl⟩
  have S0 : Below W1.heap.size W1 w2 := by rw [← hw2]; exact (Below.refl _ _).drew
  have b2 : Below W.heap.size W w2 := Below.after b1 S0
  have s1 := below_block b2 z1; have s2 := z2.below b2; have s3 := z3.below b2
  have m1 : ∀ w, SAdd B most mb W.heap.size (.slice a E.length cap) e w → w.cell? ⟨B, 1, none⟩ = some (.slice a E.length cap) := fun w hw => (StC.cells hw.1).2.1
  have x0 : ∀ w, SAdd B most mb W.heap.size (.slice a E.length cap) e w → EnC w W.heap.size e := fun w hw => hw.2
  have hx2 : EnC w2 W.heap.size e := below_block S0 k1
  have K1 := Lib.hid hx2; have S1 := Lib.hid s1; have S3 := Lib.hid s3; have B2 := Lib.hid b2
  have HX := Lib.hid (And.intro hlt (And.intro z4 (And.intro z5 (And.intro hBlt (And.intro hmlt (And.intro hBm hown))))))
  have HR := Lib.hid (And.intro hr (And.intro hnew hE))
  have T0 : SAdd B most mb W.heap.size (.slice a E.length cap) e w2 := ⟨s1, hx2⟩
  have Z2 := Lib.hid s2
  clear k1 hx2 s2 b1 hlt z1 z2 z3 z4 z5 hown hBlt hmlt hBm b2 s1 s3 hr hnew hE
  have y0 : ∀ w, SAdd B most mb W.heap.size (.slice a E.length cap) e w → w.cell? ⟨W.heap.size, 0, none⟩ = some (.int .i64 e.ru.kind) := fun w hw => (x0 w hw).cells.1
  have y1 : ∀ w, SAdd B most mb W.heap.size (.slice a E.length cap) e w → w.cell? ⟨W.heap.size, 1, none⟩ = some (.int .u8 e.ru.letter) := fun w hw => (x0 w hw).cells.2.1
  have y2 : ∀ w, SAdd B most mb W.heap.size (.slice a E.length cap) e w → w.cell? ⟨W.heap.size, 2, none⟩ = some (.int .i64 e.ru.left) := fun w hw => (x0 w hw).cells.2.2.1
  have y3 : ∀ w, SAdd B most mb W.heap.size (.slice a E.length cap) e w → w.cell? ⟨W.heap.size, 3, none⟩ = some (.int .i64 e.ru.right) := fun w hw => (x0 w hw).cells.2.2.2.1
  have y4 : ∀ w, SAdd B most mb W.heap.size (.slice a E.length cap) e w → w.cell? ⟨W.heap.size, 4, none⟩ = some (.int .i64 e.ru.times) := fun w hw => (x0 w hw).cells.2.2.2.2.1
  have y5 : ∀ w, SAdd B most mb W.heap.size (.slice a E.length cap) e w → w.cell? ⟨W.heap.size, 5, none⟩ = some (.int .i64 e.w.len) := fun w hw => (x0 w hw).cells.2.2.2.2.2.1
  have y6 : ∀ w, SAdd B most mb W.heap.size (.slice a E.length cap) e w → w.cell? ⟨W.heap.size, 6, none⟩ = some (.int .i64 e.w.lines) := fun w hw => (x0 w hw).cells.2.2.2.2.2.2.1
  have y7 : ∀ w, SAdd B most mb W.heap.size (.slice a E.length cap) e w → w.cell? ⟨W.heap.size, 7, none⟩ = some (.int .i64 e.w.head) := fun w hw => (x0 w hw).cells.2.2.2.2.2.2.2.1
  have y8 : ∀ w, SAdd B most mb W.heap.size (.slice a E.length cap) e w → w.cell? ⟨W.heap.size, 8, none⟩ = some (.int .i64 e.w.tail) := fun w hw => (x0 w hw).cells.2.2.2.2.2.2.2.2.1
  have y9 : ∀ w, SAdd B most mb W.heap.size (.slice a E.length cap) e w → w.cell? ⟨W.heap.size, 9, none⟩ = some (.int .u64 e.w.d.v) := fun w hw => (x0 w hw).cells.2.2.2.2.2.2.2.2.2.1
  have y10 : ∀ w, SAdd B most mb W.heap.size (.slice a E.length cap) e w → w.cell? ⟨W.heap.size, 10, none⟩ = some (.int .u64 e.w.d.s) := fun w hw => (x0 w hw).cells.2.2.2.2.2.2.2.2.2.2.1
  have y11 : ∀ w, SAdd B most mb W.heap.size (.slice a E.length cap) e w → w.cell? ⟨W.heap.size, 11, none⟩ = some (.int .i64 e.depth) := fun w hw => (x0 w hw).cells.2.2.2.2.2.2.2.2.2.2.2.1
  have y12 : ∀ w, SAdd B most mb W.heap.size (.slice a E.length cap) e w → w.cell? ⟨W.heap.size, 12, none⟩ = some (.bool e.even) := fun w hw => (x0 w hw).cells.2.2.2.2.2.2.2.2.2.2.2.2
  clear x0
  go_enter Try.func71, Try.ntmps71
  go_wp2_with fail
  clear hW1
  refine wp_region_anyNP (SAdd B most mb W.heap.size (.slice a E.length cap) e) (by kernel_rfl) ?_
  rw [hw2]
  clear hw2
  refine AnyH.take (i := 0) (d := some 6) (v := ?_) (by kernel_rfl) rfl rfl HF (fun _ _ _ h => h) (.inl ⟨by rfl, ?_⟩) (by first | assumption | rfl) ?_
  rotate_left
  · intro w hS; try subst hS
    go_simp; try with_reducible rfl
  try simp only [Act.put, List.setIfInBounds_toArray, List.set_cons_zero, List.set_cons_succ]
  refine AnyH.take (i := 1) (d := some 7) (v := ?_) (by kernel_rfl) rfl rfl HF (fun _ _ _ h => h) (.inl ⟨by rfl, ?_⟩) (by first | assumption | rfl) ?_
  rotate_left
  · intro w hS; try subst hS
    go_simp; try with_reducible rfl
  try simp only [Act.put, List.setIfInBounds_toArray, List.set_cons_zero, List.set_cons_succ]
  refine AnyH.take (i := 2) (d := some 8) (v := ?_) (by kernel_rfl) rfl rfl HF (fun _ _ _ h => h) (.inl ⟨by rfl, ?_⟩) (by first | assumption | rfl) ?_
  rotate_left
  · intro w hS; try subst hS
    go_simp; try with_reducible rfl
  try simp only [Act.put, List.setIfInBounds_toArray, List.set_cons_zero, List.set_cons_succ]
  refine AnyH.take (i := 3) (d := some 9) (v := ?_) (by kernel_rfl) rfl rfl HF (fun _ _ _ h => h) (.inl ⟨by rfl, ?_⟩) (by first | assumption | rfl) ?_
  rotate_left
  · intro w hS; try subst hS
    go_simp; try with_reducible rfl
  try simp only [Act.put, List.setIfInBounds_toArray, List.set_cons_zero, List.set_cons_succ]
  refine AnyH.take (i := 4) (d := some 10) (v := ?_) (by kernel_rfl) rfl rfl HF (fun _ _ _ h => h) (.inl ⟨by rfl, ?_⟩) (by first | assumption | rfl) ?_
  rotate_left
  · intro w hS; try subst hS
    go_simp; try with_reducible rfl
  try simp only [Act.put, List.setIfInBounds_toArray, List.set_cons_zero, List.set_cons_succ]
  refine AnyH.take (i := 5) (d := some 11) (v := ?_) (by kernel_rfl) rfl rfl HF (fun _ _ _ h => h) (.inl ⟨by rfl, ?_⟩) (by first | assumption | rfl) ?_
  rotate_left
  · intro w hS; try subst hS
    go_simp; try with_reducible rfl
  try simp only [Act.put, List.setIfInBounds_toArray, List.set_cons_zero, List.set_cons_succ]
  refine AnyH.one (i := 6) (by kernel_rfl) (by kernel_rfl) rfl HF (by rfl) (fun K hK => ?_)
  go_simp
  have hb6 : Below w2.heap.size w2 (w2.alloc (.cells #[.int .i64 e.ru.kind, .int .u8 e.ru.letter, .int .i64 e.ru.left, .int .i64 e.ru.right, .int .i64 e.ru.times, .int .i64 e.w.len, .int .i64 e.w.lines, .int .i64 e.w.head, .int .i64 e.w.tail, .int .u64 e.w.d.v, .int .u64 e.w.d.s, .int .i64 e.depth, .bool e.even] 122)) := (Below.refl _ _).alloc (Nat.le_refl _) _
  have T6 := T0.below hb6
  refine hK _ _ T6 ?_
  clear hK K hb6
  try simp only [Act.put, List.setIfInBounds_toArray, List.set_cons_zero, List.set_cons_succ]
  obtain ⟨v', w3, hrun, hS', hg, hb'⟩ := run_app1 elemE enL_len 113 Z2.out e 1 (cs := #[.int .i64 e.ru.kind, .int .u8 e.ru.letter, .int .i64 e.ru.left, .int .i64 e.ru.right, .int .i64 e.ru.times, .int .i64 e.w.len, .int .i64 e.w.lines, .int .i64 e.w.head, .int .i64 e.w.tail, .int .u64 e.w.d.v, .int .u64 e.w.d.s, .int .i64 e.depth, .bool e.even]) rfl (by simp [enL, Value.oneCell']) (by have := HR.out.2.2; omega) (Nat.le_trans HX.out.1 B2.out.size)
  have hz1 : StC w3 B most (.slice a E.length cap) mb := app_other Z2.out hg T0.1 (by decide)
  have hz2 : EnC w3 W.heap.size e := by
    have h6 := T6.2
    unfold EnC at h6 ⊢
    rw [hg.block _ (Array.getElem?_eq_some_iff.1 h6).1 (fun e' => absurd (HX.out.2.2.2.2.2.2 _ e'.symm) (Nat.lt_irrefl _))]
    exact h6
  have HG := Lib.hid hg; have HS' := Lib.hid hS'; have HB' := Lib.hid hb'; have HZ2 := Lib.hid hz2
  have hMR : Hid (MapR w3 mb E) := Lib.hid (by
    obtain ⟨es, c, h1, h2⟩ := S3.out
    exact ⟨es, c, (app_keepsOthers Z2.out hg).same _ _ h1 rfl, h2⟩)
  refine AnyH.one (i := 7) (by kernel_rfl) (by kernel_rfl) rfl HF (by rfl) (fun K hK => ?_)
  simp [execOp, resolve, invoke, builtin, hrun, Result.andThen, Act.eval, Oper.uponIn]
  refine hK _ _ ⟨hz1, hz2⟩ ?_
  clear hK K hrun hg hS' hb' hz2
  try simp only [Act.put, List.setIfInBounds_toArray, List.set_cons_zero, List.set_cons_succ]
  refine AnyH.tailL 8 (by kernel_rfl) ?_
  simp only [List.drop_succ_cons, List.drop_zero]
  obtain ⟨n, hn⟩ : ∃ n, E.length + 1 = n := ⟨_, rfl⟩
  have HN := Lib.hid hn
  have hlen : (E ++ [e]).length = n := by simp [hn]
  obtain ⟨va, vc, hv'⟩ := HS'.out.len
  rw [hlen] at hv'
  subst hv'
  obtain ⟨-, g1, -, gf⟩ := hz1.cells
  obtain ⟨w4, hw4⟩ : ∃ w, w3.setCell ⟨B, 1, none⟩ (.slice va n vc) = w := ⟨_, rfl⟩
  have S4 : StC w4 B most (.slice va n vc) mb := by
    rw [← hw4]; unfold StC at hz1 ⊢
    exact heap_set0 _ hz1
  have hB4 : Below n0 W w4 := by
    rw [← hw4]
    exact ((B2.out.mono HX.out.1).trans HB'.out).setCell (p := ⟨B, 1, none⟩) HX.out.2.1 _
  have E4 : Ens n0 w4 (.slice va n vc) (E ++ [e]) := by
    rw [← hw4]; exact SlA.setCell HS'.out _ (a := ⟨B, 1, none⟩) hz1 (by decide)
  have M4 : MapR w4 mb E := by
    rw [← hw4]
    exact MapR.of_block hMR.out (Below.heap_setCell _ _ _ _ (fun e => HX.out.2.2.2.2.2.1 e.symm))
  have N4 : EnC w4 W.heap.size e := by
    rw [← hw4]
    exact set_other (fun e' => by have := HX.out.2.2.2.1; omega) HZ2.out
  have KT4 : Kt W w4 := fun t h1 h2 k cs fz hk => by
    rw [← hw4]
    refine set_other (fun e' => ?_) (app_other Z2.out HG.out (below_block B2.out hk) h2)
    subst e'
    have hB := below_block B2.out hk
    have hS := S1.out
    unfold StC at hS
    rw [hS] at hB
    simp only [Option.some.injEq, Obj.cells.injEq] at hB
    exact h1 hB.2.1.symm
  have HS4 := Lib.hid S4; have HB4 := Lib.hid hB4; have HE4 := Lib.hid E4; have HM4 := Lib.hid M4; have HN4 := Lib.hid N4; have HK4 := Lib.hid KT4
  obtain ⟨-, c1, -, -⟩ := S4.cells
  clear S4 hB4 E4 M4 N4 KT4 HZ2 hMR HS' HB' HG T0 T6 S0 m1 y0 y1 y2 y3 y4 y5 y6 y7 y8 y9 y10 y11 y12 hn hlen
  gi_wp2_with fail
  refine NP.normal ?_
  clear hz1 g1 gf hw4
  go_wp2_with fail
  obtain ⟨wd, hwd⟩ : ∃ w, w4.drew = w := ⟨_, rfl⟩
  have D0 : Below w4.heap.size w4 wd := by rw [← hwd]; exact (Below.refl _ _).drew
  obtain ⟨w5, hput, hM5, hg5, hs5⟩ := MapR.put (HM4.out.below D0) (by have := HR.out.2.2; omega) e HR.out.1 HR.out.2.1
  rw [HN.out] at hput
  unfold ruV at hput
  have n2 : ∀ w, Below w4.heap.size w4 w → w.cell? ⟨B, 2, none⟩ = some (.map (some mb)) := fun w hw => (StC.cells (below_block hw HS4.out)).2.2.1
  have r0 : ∀ w, Below w4.heap.size w4 w → w.cell? ⟨W.heap.size, 0, none⟩ = some (.int .i64 e.ru.kind) := fun w hw => (EnC.cells (below_block hw HN4.out)).1
  have r1 : ∀ w, Below w4.heap.size w4 w → w.cell? ⟨W.heap.size, 1, none⟩ = some (.int .u8 e.ru.letter) := fun w hw => (EnC.cells (below_block hw HN4.out)).2.1
  have r2 : ∀ w, Below w4.heap.size w4 w → w.cell? ⟨W.heap.size, 2, none⟩ = some (.int .i64 e.ru.left) := fun w hw => (EnC.cells (below_block hw HN4.out)).2.2.1
  have r3 : ∀ w, Below w4.heap.size w4 w → w.cell? ⟨W.heap.size, 3, none⟩ = some (.int .i64 e.ru.right) := fun w hw => (EnC.cells (below_block hw HN4.out)).2.2.2.1
  have r4 : ∀ w, Below w4.heap.size w4 w → w.cell? ⟨W.heap.size, 4, none⟩ = some (.int .i64 e.ru.times) := fun w hw => (EnC.cells (below_block hw HN4.out)).2.2.2.2.1
  have HEND : Hid (StAt n0 w5 B most (E ++ [e]) ∧ Below n0 W w5 ∧ Kt W w5) := Lib.hid (by
    have hmc : ∃ o : Obj, wd.heap[mb]? = some o ∧ o.isCells = false := by
      obtain ⟨es, c, h1, -⟩ := HM4.out.below D0
      exact ⟨_, h1, rfl⟩
    have calm : ∀ {b : Nat}, b ≤ mb → CalmRow b wd (some mb) := fun {b} hb r hr => by cases hr; exact ⟨hb, hmc⟩
    refine ⟨⟨_, mb, own_cells hg5 (calm HX.out.2.2.1) (below_block D0 HS4.out), own_SlA hg5 (calm HX.out.2.2.1) (HE4.out.below D0), hM5, HX.out.2.1, HX.out.2.2.1⟩, ?_, ?_⟩
    · have hd : Below n0 W wd := HB4.out.trans (D0.mono (Nat.le_trans HX.out.1 HB4.out.size))
      exact own_below hg5 (calm HX.out.2.2.1) HX.out.1 (Nat.le_refl _) hd
    · intro t h1 h2 k cs fz hk
      exact own_cells hg5 (calm HX.out.2.2.1) (below_block D0 (HK4.out t h1 h2 k cs fz hk)))
  clear hM5 hg5 hs5
  refine wp_region_anyH (Below w4.heap.size w4) (by kernel_rfl) ?_
  rw [hwd]
  clear hwd
  refine AnyH.take (i := 0) (d := some 21) (v := ?_) (by kernel_rfl) rfl rfl HF (fun _ _ _ h => h) (.inl ⟨by rfl, ?_⟩) (by first | assumption | rfl) ?_
  rotate_left
  · intro w hS; try subst hS
    go_simp; try with_reducible rfl
  try simp only [Act.put, List.setIfInBounds_toArray, List.set_cons_zero, List.set_cons_succ]
  refine AnyH.take (i := 1) (d := some 22) (v := ?_) (by kernel_rfl) rfl rfl HF (fun _ _ _ h => h) (.inl ⟨by rfl, ?_⟩) (by first | assumption | rfl) ?_
  rotate_left
  · intro w hS; try subst hS
    go_simp; try with_reducible rfl
  try simp only [Act.put, List.setIfInBounds_toArray, List.set_cons_zero, List.set_cons_succ]
  refine AnyH.take (i := 2) (d := some 23) (v := ?_) (by kernel_rfl) rfl rfl HF (fun _ _ _ h => h) (.inl ⟨by rfl, ?_⟩) (by first | assumption | rfl) ?_
  rotate_left
  · intro w hS; try subst hS
    go_simp; try with_reducible rfl
  try simp only [Act.put, List.setIfInBounds_toArray, List.set_cons_zero, List.set_cons_succ]
  refine AnyH.take (i := 3) (d := some 24) (v := ?_) (by kernel_rfl) rfl rfl HF (fun _ _ _ h => h) (.inl ⟨by rfl, ?_⟩) (by first | assumption | rfl) ?_
  rotate_left
  · intro w hS; try subst hS
    go_simp; try with_reducible rfl
  try simp only [Act.put, List.setIfInBounds_toArray, List.set_cons_zero, List.set_cons_succ]
  refine AnyH.take (i := 4) (d := some 25) (v := ?_) (by kernel_rfl) rfl rfl HF (fun _ _ _ h => h) (.inl ⟨by rfl, ?_⟩) (by first | assumption | rfl) ?_
  rotate_left
  · intro w hS; try subst hS
    go_simp; try with_reducible rfl
  try simp only [Act.put, List.setIfInBounds_toArray, List.set_cons_zero, List.set_cons_succ]
  refine AnyH.take (i := 5) (d := some 26) (v := ?_) (by kernel_rfl) rfl rfl HF (fun _ _ _ h => h) (.inl ⟨by rfl, ?_⟩) (by first | assumption | rfl) ?_
  rotate_left
  · intro w hS; try subst hS
    go_simp; try with_reducible rfl
  try simp only [Act.put, List.setIfInBounds_toArray, List.set_cons_zero, List.set_cons_succ]
  refine AnyH.take (i := 6) (d := some 27) (v := ?_) (by kernel_rfl) rfl rfl HF (fun _ _ _ h => h) (.inl ⟨by rfl, ?_⟩) (by first | assumption | rfl) ?_
  rotate_left
  · intro w hS; try subst hS
    go_simp; try with_reducible rfl
  try simp only [Act.put, List.setIfInBounds_toArray, List.set_cons_zero, List.set_cons_succ]
  refine AnyH.tailL 7 (by kernel_rfl) ?_
  simp only [List.drop_succ_cons, List.drop_zero]
  clear n2 r0 r1 r2 r3 r4 D0 c1
  gi_wp2_with fail
  go_wp2_with fail
  go_ret
  exact ⟨by rw [HN.out]; rfl, HEND.out⟩
end M
end Go.Proofs.Ytpjcfepngjpfbaa
