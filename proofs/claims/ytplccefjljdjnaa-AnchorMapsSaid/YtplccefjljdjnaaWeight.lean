/- Digests and weights: blocks; Unit, Letter. -/
import Derived.Test.YtplccefjljdjnaaLen
import Derived.Test.YtplccefjljdjnaaWt
import Derived.Test.YtplccefjljdjnaaOwn
import Derived.Test.YtplccefjljdjnaaTail
namespace Go.Proofs.Ytplccefjljdjnaa
open Go.RowKit Go.Lib
theorem heap_new' (W : World) (o : Obj) : (W.alloc o).heap[W.heap.size]? = some o := by
  show (W.heap.push o)[W.heap.size]? = _
  simp
theorem heap_set0 {W : World} {g : Nat} {cs : Array Value} {t : TypeId} {i : Nat} (v : Value) (h : W.heap[g]? = some (.cells cs t (0, 0))) : (W.setCell ⟨g, i, none⟩ v).heap[g]? = some (.cells (cs.setIfInBounds i v) t (0, 0)) := by
  obtain ⟨hlt, hk⟩ := Array.getElem?_eq_some_iff.1 h
  show (W.heap.modify g _)[g]? = _
  rw [Array.getElem?_eq_getElem (by rw [Array.size_modify]; exact hlt), Array.getElem_modify_self, hk]
  rfl
theorem below_block {A B : World} {g : Nat} {o : Obj} (hb : Below A.heap.size A B) (h : A.heap[g]? = some o) : B.heap[g]? = some o := (hb.block g (Array.getElem?_eq_some_iff.1 h).1).trans h
theorem Below.after {A B C : World} (h : Below A.heap.size A B) (k : Below B.heap.size B C) : Below A.heap.size A C := h.trans (k.mono h.size)
namespace M
attribute [local go_sem] Oper.semAt_some
/-- A block with a digest. -/
def DgC (W : World) (g : Nat) (d : Dg) : Prop := W.heap[g]? = some (.cells #[.int .u64 d.v, .int .u64 d.s] 116 (0, 0))
abbrev dgV (d : Dg) : Value := .agg #[.int .u64 d.v, .int .u64 d.s]
theorem DgC.cells {W : World} {g : Nat} {d : Dg} (h : DgC W g d) : (W.cell? ⟨g, 0, none⟩ = some (.int .u64 d.v) ∧ W.cell? ⟨g, 1, none⟩ = some (.int .u64 d.s)) ∧ W.frozen? ⟨g, 0, none⟩ = false ∧ W.frozen? ⟨g, 1, none⟩ = false := by
  unfold DgC at h
  simp [World.cell?, World.frozen?, h]
theorem DgC.new (W : World) (d : Dg) : DgC (W.alloc (.cells #[.int .u64 d.v, .int .u64 d.s] 116)) W.heap.size d := heap_new' _ _
theorem DgC.set {W : World} {g : Nat} {d : Dg} (h : DgC W g d) (d' : Dg) : DgC ((W.setCell ⟨g, 0, none⟩ (.int .u64 d'.v)).setCell ⟨g, 1, none⟩ (.int .u64 d'.s)) g d' := by
  unfold DgC at h ⊢
  exact heap_set0 _ (heap_set0 _ h)
abbrev wtL (w : Wt) : List Value := [.int .i64 w.len, .int .i64 w.lines, .int .i64 w.head, .int .i64 w.tail, .int .u64 w.d.v, .int .u64 w.d.s]
abbrev wtV (w : Wt) : Value := .agg #[.int .i64 w.len, .int .i64 w.lines, .int .i64 w.head, .int .i64 w.tail, .int .u64 w.d.v, .int .u64 w.d.s]
def WtC (W : World) (g : Nat) (w : Wt) : Prop := W.heap[g]? = some (.cells #[.int .i64 w.len, .int .i64 w.lines, .int .i64 w.head, .int .i64 w.tail, .int .u64 w.d.v, .int .u64 w.d.s] 118 (0, 0))
section
variable {W : World} {g : Nat} {w : Wt}
theorem WtC.cells (h : WtC W g w) : W.cell? ⟨g, 0, none⟩ = some (.int .i64 w.len) ∧ W.cell? ⟨g, 1, none⟩ = some (.int .i64 w.lines) ∧ W.cell? ⟨g, 2, none⟩ = some (.int .i64 w.head) ∧ W.cell? ⟨g, 3, none⟩ = some (.int .i64 w.tail) ∧ W.cell? ⟨g, 4, none⟩ = some (.int .u64 w.d.v) ∧ W.cell? ⟨g, 5, none⟩ = some (.int .u64 w.d.s) := by
  unfold WtC at h
  simp [World.cell?, h]
theorem WtC.free (h : WtC W g w) (i : Nat) : W.frozen? ⟨g, i, none⟩ = false := by
  unfold WtC at h
  simp [World.frozen?, h]
theorem WtC.new (W : World) (w : Wt) : WtC (W.alloc (.cells #[.int .i64 w.len, .int .i64 w.lines, .int .i64 w.head, .int .i64 w.tail, .int .u64 w.d.v, .int .u64 w.d.s] 118)) W.heap.size w := heap_new' _ _
/-- All six cells written. -/
abbrev setW (W : World) (g : Nat) (w : Wt) : World := (((((W.setCell ⟨g, 0, none⟩ (.int .i64 w.len)).setCell ⟨g, 1, none⟩ (.int .i64 w.lines)).setCell ⟨g, 2, none⟩ (.int .i64 w.head)).setCell ⟨g, 3, none⟩ (.int .i64 w.tail)).setCell ⟨g, 4, none⟩ (.int .u64 w.d.v)).setCell ⟨g, 5, none⟩ (.int .u64 w.d.s)
theorem WtC.set (h : WtC W g w) (w' : Wt) : WtC (setW W g w') g w' := by
  unfold WtC at h ⊢
  exact heap_set0 _ (heap_set0 _ (heap_set0 _ (heap_set0 _ (heap_set0 _ (heap_set0 _ h)))))
theorem setW_below {n : Nat} {A : World} (h : Below n A W) (hg : n ≤ g) (w : Wt) : Below n A (setW W g w) :=
  (((((h.setCell (p := ⟨g, 0, none⟩) hg _).setCell (p := ⟨g, 1, none⟩) hg _).setCell (p := ⟨g, 2, none⟩) hg _).setCell (p := ⟨g, 3, none⟩) hg _).setCell (p := ⟨g, 4, none⟩) hg _).setCell (p := ⟨g, 5, none⟩) hg _
end
def w0 : Wt := ⟨0, 0, 0, 0, ⟨0, 0⟩⟩
set_option maxRecDepth 100000 in
theorem dunit_any (W : World) : Calls Try.prog 85 #[] W fun e w' => e = .returned (dgV (dg [])) ∧ Below W.heap.size W w' := by
  go_enter Try.func85, Try.ntmps85
  go_wp2_with fail
  exact bodyPost_ret (v := dgV (dg [])) (by simp [results, Try.results85, go_sem]; exact ⟨rfl, rfl⟩) rfl ⟨rfl, (Below.refl _ _).alloc (Nat.le_refl _) _⟩
set_option maxRecDepth 100000 in
theorem wunit_any (W : World) : Calls Try.prog 72 #[] W fun e w' => e = .returned (wtV (wt [])) ∧ Below W.heap.size W w' := by
  obtain ⟨W1, hW1⟩ : ∃ w, W.alloc (.cells #[.int .i64 0, .int .i64 0, .int .i64 0, .int .i64 0, .int .u64 0, .int .u64 0] 118) = w := ⟨_, rfl⟩
  have k1 : WtC W1 W.heap.size w0 := by rw [← hW1]; exact heap_new' _ _
  have b1 : Below W.heap.size W W1 := by rw [← hW1]; exact (Below.refl _ _).alloc (Nat.le_refl _) _
  have K1 := Lib.hid k1; have B1 := Lib.hid b1
  clear k1 b1
  go_enter Try.func72, Try.ntmps72
  go_wp2_with fail
  refine (dunit_any W1).mono ?_; rintro e w1 ⟨rfl, b2⟩
  have k2 := below_block b2 K1.out
  obtain ⟨c0, c1, c2, c3, c4, c5⟩ := WtC.cells k2
  have f0 := WtC.free k2 0; have f1 := WtC.free k2 1; have f2 := WtC.free k2 2; have f3 := WtC.free k2 3; have f4 := WtC.free k2 4; have f5 := WtC.free k2 5
  have K3 := Lib.hid (WtC.set k2 (wt []))
  have B3 := Lib.hid (setW_below (Below.after B1.out b2) (Nat.le_refl _) (wt []))
  obtain ⟨w3, hw3⟩ : ∃ w, setW w1 W.heap.size (wt []) = w := ⟨_, rfl⟩
  rw [hw3] at K3 B3
  have e0 : dgV (dg []) = .agg #[.int .u64 0, .int .u64 1] := rfl
  rw [e0]
  have hw3' : (((((w1.setCell ⟨W.heap.size, 0, none⟩ (.int .i64 0)).setCell ⟨W.heap.size, 1, none⟩ (.int .i64 0)).setCell ⟨W.heap.size, 2, none⟩ (.int .i64 0)).setCell ⟨W.heap.size, 3, none⟩ (.int .i64 0)).setCell ⟨W.heap.size, 4, none⟩ (.int .u64 0)).setCell ⟨W.heap.size, 5, none⟩ (.int .u64 1) = w3 := hw3
  clear hw3 k2 b2 hW1
  go_wp2_with fail
  obtain ⟨c0, c1, c2, c3, c4, c5⟩ := K3.out.cells
  exact bodyPost_ret (v := wtV (wt [])) (by simp [results, Try.results72, go_sem, c0, c1, c2, c3, c4, c5]) rfl ⟨rfl, B3.out⟩
set_option maxRecDepth 100000 in
theorem dletter_any (W : World) (b : Nat) (hb : b < 256) : Calls Try.prog 71 #[.int .u8 b] W fun e w' => e = .returned (dgV (dg [b])) ∧ Below W.heap.size W w' := by
  have e0 : dgV (dg [b]) = .agg #[.int .u64 ((b : Int) + 1), .int .u64 1103515245] := by
    have h1 : dgv [b] = b + 1 := by show (0 * bs + (b + 1)) % Q = _; rw [Nat.zero_mul, Nat.zero_add]; exact Nat.mod_eq_of_lt (by unfold Q; omega)
    have h2 : bs ^ [b].length % Q = 1103515245 := rfl
    unfold dgV dg
    dsimp only
    rw [h1, h2]
    rfl
  rw [e0]
  have hw : IntKind.u64.wrap ((b : Int) + 1) = (b : Int) + 1 := by rw [IntKind.wrap_u64]; omega
  have hw2 : IntKind.u64.wrap (b : Int) = (b : Int) := by rw [IntKind.wrap_u64]; omega
  go_enter Try.func71, Try.ntmps71
  go_wp2_with fail
  exact bodyPost_ret (v := .agg #[.int .u64 ((b : Int) + 1), .int .u64 1103515245]) (by simp [results, Try.results71, go_sem]) rfl ⟨rfl, (Below.refl _ _).alloc (Nat.le_refl _) _⟩
theorem wt_nl : wt [10] = ⟨1, 1, 0, 0, dg [10]⟩ := rfl
theorem wt_lt {b : Nat} (h : b ≠ 10) : wt [b] = ⟨1, 0, 1, 1, dg [b]⟩ := by
  have hb : (b == 10) = false := by simpa using h
  simp [wt, hdT, tlT, List.findIdx_cons, hb, List.count_cons]
set_option maxRecDepth 100000 in
theorem wletter_any (W : World) (b : Nat) (hb : b < 256) : Calls Try.prog 52 #[.int .u8 b] W fun e w' => e = .returned (wtV (wt [b])) ∧ Below W.heap.size W w' := by
  obtain ⟨W1, hW1⟩ : ∃ w, W.alloc (.cells #[.int .i64 0, .int .i64 0, .int .i64 0, .int .i64 0, .int .u64 0, .int .u64 0] 118) = w := ⟨_, rfl⟩
  have k1 : WtC W1 W.heap.size w0 := by rw [← hW1]; exact heap_new' _ _
  have b1 : Below W.heap.size W W1 := by rw [← hW1]; exact (Below.refl _ _).alloc (Nat.le_refl _) _
  have K1 := Lib.hid k1; have B1 := Lib.hid b1
  clear k1 b1
  by_cases h10 : b = 10
  · have hbb : ((b : Int) == 10) = true := by simp [h10]
    have e10 : wt [b] = ⟨1, 1, 0, 0, dg [b]⟩ := by rw [h10]; rfl
    clear h10
    go_enter Try.func52, Try.ntmps52
    go_wp2_with fail
    refine (dletter_any W1 b hb).mono ?_; rintro e w1 ⟨rfl, b2⟩
    obtain ⟨d, hd⟩ : ∃ d, dg [b] = d := ⟨_, rfl⟩
    have ev : dgV d = .agg #[.int .u64 d.v, .int .u64 d.s] := rfl
    rw [hd, ev]
    have HW : Hid (wt [b] = ⟨1, 1, 0, 0, d⟩) := Lib.hid (by rw [e10, hd])
    have k2 := below_block b2 K1.out
    obtain ⟨c0, c1, c2, c3, c4, c5⟩ := WtC.cells k2
    have f0 := WtC.free k2 0; have f1 := WtC.free k2 1; have f2 := WtC.free k2 2; have f3 := WtC.free k2 3; have f4 := WtC.free k2 4; have f5 := WtC.free k2 5
    have K3 := Lib.hid (WtC.set k2 ⟨1, 1, 0, 0, d⟩)
    have B3 := Lib.hid (setW_below (Below.after B1.out b2) (Nat.le_refl _) ⟨1, 1, 0, 0, d⟩)
    obtain ⟨w3, hw3⟩ : ∃ w, setW w1 W.heap.size ⟨1, 1, 0, 0, d⟩ = w := ⟨_, rfl⟩
    rw [hw3] at K3 B3
    have hw3' : (((((w1.setCell ⟨W.heap.size, 0, none⟩ (.int .i64 1)).setCell ⟨W.heap.size, 1, none⟩ (.int .i64 1)).setCell ⟨W.heap.size, 2, none⟩ (.int .i64 0)).setCell ⟨W.heap.size, 3, none⟩ (.int .i64 0)).setCell ⟨W.heap.size, 4, none⟩ (.int .u64 d.v)).setCell ⟨W.heap.size, 5, none⟩ (.int .u64 d.s) = w3 := hw3
    clear hw3 k2 b2 hW1 ev hd
    go_wp2_with fail
    obtain ⟨c0, c1, c2, c3, c4, c5⟩ := K3.out.cells
    exact bodyPost_ret (v := wtV ⟨1, 1, 0, 0, d⟩) (by simp [results, Try.results52, go_sem, c0, c1, c2, c3, c4, c5]) rfl ⟨by rw [HW.out], B3.out⟩
  · have hbb : ((b : Int) == 10) = false := by simp; omega
    have e10 := wt_lt h10
    clear h10
    go_enter Try.func52, Try.ntmps52
    go_wp2_with fail
    refine (dletter_any W1 b hb).mono ?_; rintro e w1 ⟨rfl, b2⟩
    obtain ⟨d, hd⟩ : ∃ d, dg [b] = d := ⟨_, rfl⟩
    have ev : dgV d = .agg #[.int .u64 d.v, .int .u64 d.s] := rfl
    rw [hd, ev]
    have HW : Hid (wt [b] = ⟨1, 0, 1, 1, d⟩) := Lib.hid (by rw [e10, hd])
    have k2 := below_block b2 K1.out
    obtain ⟨c0, c1, c2, c3, c4, c5⟩ := WtC.cells k2
    have f0 := WtC.free k2 0; have f1 := WtC.free k2 1; have f2 := WtC.free k2 2; have f3 := WtC.free k2 3; have f4 := WtC.free k2 4; have f5 := WtC.free k2 5
    have K3 := Lib.hid (WtC.set k2 ⟨1, 0, 1, 1, d⟩)
    have B3 := Lib.hid (setW_below (Below.after B1.out b2) (Nat.le_refl _) ⟨1, 0, 1, 1, d⟩)
    obtain ⟨w3, hw3⟩ : ∃ w, setW w1 W.heap.size ⟨1, 0, 1, 1, d⟩ = w := ⟨_, rfl⟩
    rw [hw3] at K3 B3
    have hw3' : (((((w1.setCell ⟨W.heap.size, 0, none⟩ (.int .i64 1)).setCell ⟨W.heap.size, 1, none⟩ (.int .i64 0)).setCell ⟨W.heap.size, 2, none⟩ (.int .i64 1)).setCell ⟨W.heap.size, 3, none⟩ (.int .i64 1)).setCell ⟨W.heap.size, 4, none⟩ (.int .u64 d.v)).setCell ⟨W.heap.size, 5, none⟩ (.int .u64 d.s) = w3 := hw3
    clear hw3 k2 b2 hW1 ev hd
    go_wp2_with fail
    obtain ⟨c0, c1, c2, c3, c4, c5⟩ := K3.out.cells
    exact bodyPost_ret (v := wtV ⟨1, 0, 1, 1, d⟩) (by simp [results, Try.results52, go_sem, c0, c1, c2, c3, c4, c5]) rfl ⟨by rw [HW.out], B3.out⟩
end M
end Go.Proofs.Ytplccefjljdjnaa
