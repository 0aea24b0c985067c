/- The store of rules: an entry's block; at. -/
import Derived.Test.YtpjcfepngjpfbaaRuMap
namespace Go.Proofs.Ytpjcfepngjpfbaa
open Go.RowKit
namespace M
attribute [local go_sem] Oper.semAt_some
def enL (e : En) : List Value := [.int .i64 e.ru.kind, .int .u8 e.ru.letter, .int .i64 e.ru.left, .int .i64 e.ru.right, .int .i64 e.ru.times, .int .i64 e.w.len, .int .i64 e.w.lines, .int .i64 e.w.head, .int .i64 e.w.tail, .int .u64 e.w.d.v, .int .u64 e.w.d.s, .int .i64 e.depth, .bool e.even]
theorem enL_len (e : En) : (enL e).length = 13 := rfl
abbrev enV (e : En) : Value := .agg #[.int .i64 e.ru.kind, .int .u8 e.ru.letter, .int .i64 e.ru.left, .int .i64 e.ru.right, .int .i64 e.ru.times, .int .i64 e.w.len, .int .i64 e.w.lines, .int .i64 e.w.head, .int .i64 e.w.tail, .int .u64 e.w.d.v, .int .u64 e.w.d.s, .int .i64 e.depth, .bool e.even]
abbrev Ens (B : Nat) (W : World) (v : Value) (E : List En) : Prop := SlA B W 122 13 enL v E
theorem elemE : Elem Try.prog 113 122 13 104 := elem_of Try.underlying113 (z := .agg #[.int .i64 0, .int .u8 0, .int .i64 0, .int .i64 0, .int .i64 0, .int .i64 0, .int .i64 0, .int .i64 0, .int .i64 0, .int .u64 0, .int .u64 0, .int .i64 0, .bool false]) (by kernel_rfl) rfl (by decide) (by decide)
/-- Thirteen cells of an entry from an offset on. -/
def EnAt (W : World) (g o : Nat) (e : En) : Prop := (W.cell? ⟨g, o, none⟩ = some (.int .i64 e.ru.kind) ∧ W.cell? ⟨g, o + 1, none⟩ = some (.int .u8 e.ru.letter) ∧ W.cell? ⟨g, o + 2, none⟩ = some (.int .i64 e.ru.left) ∧ W.cell? ⟨g, o + 3, none⟩ = some (.int .i64 e.ru.right) ∧ W.cell? ⟨g, o + 4, none⟩ = some (.int .i64 e.ru.times)) ∧
  (W.cell? ⟨g, o + 5, none⟩ = some (.int .i64 e.w.len) ∧ W.cell? ⟨g, o + 6, none⟩ = some (.int .i64 e.w.lines) ∧ W.cell? ⟨g, o + 7, none⟩ = some (.int .i64 e.w.head) ∧ W.cell? ⟨g, o + 8, none⟩ = some (.int .i64 e.w.tail) ∧ W.cell? ⟨g, o + 9, none⟩ = some (.int .u64 e.w.d.v) ∧ W.cell? ⟨g, o + 10, none⟩ = some (.int .u64 e.w.d.s)) ∧
  W.cell? ⟨g, o + 11, none⟩ = some (.int .i64 e.depth) ∧ W.cell? ⟨g, o + 12, none⟩ = some (.bool e.even)
theorem Ens.at {B : Nat} {W : World} {v : Value} {E : List En} (h : Ens B W v E) {i : Nat} (hi : i < E.length) :
    ∃ g cap, v = .slice (some ⟨g, 0, none⟩) E.length cap ∧ E.length ≤ cap ∧ cap ≤ maxLen ∧ ∀ (W' : World), Below W.heap.size W W' → ∀ i (hi : i < E.length), EnAt W' g (i * 13) E[i] := by
  rcases h.shape with ⟨-, rfl⟩ | ⟨g, cap, rfl, h1, h2⟩
  · simp at hi
  · refine ⟨g, cap, rfl, h1, h2, fun W' hb i hi => ?_⟩
    have h' := h.below hb
    have c := fun (j : Nat) (hj : j < 13) => SlA.cell enL_len h' hi (j := j) hj
    exact ⟨⟨c 0 (by omega), c 1 (by omega), c 2 (by omega), c 3 (by omega), c 4 (by omega)⟩, ⟨c 5 (by omega), c 6 (by omega), c 7 (by omega), c 8 (by omega), c 9 (by omega), c 10 (by omega)⟩, c 11 (by omega), c 12 (by omega)⟩
/-- The store's own block. -/
def StC (W : World) (B most : Nat) (lv : Value) (mb : Nat) : Prop := W.heap[B]? = some (.cells #[.int .i64 most, lv, .map (some mb)] 116 (0, 0))
theorem StC.cells {W : World} {B most mb : Nat} {lv : Value} (h : StC W B most lv mb) : W.cell? ⟨B, 0, none⟩ = some (.int .i64 most) ∧ W.cell? ⟨B, 1, none⟩ = some lv ∧ W.cell? ⟨B, 2, none⟩ = some (.map (some mb)) ∧ W.frozen? ⟨B, 1, none⟩ = false := by
  unfold StC at h
  simp [World.cell?, World.frozen?, h]
/-- A store; nothing of it lies below n0. -/
def StAt (n0 : Nat) (W : World) (B most : Nat) (E : List En) : Prop := ∃ lv mb, StC W B most lv mb ∧ Ens n0 W lv E ∧ MapR W mb E ∧ n0 ≤ B ∧ n0 ≤ mb
theorem StAt.below {n0 B most : Nat} {W W' : World} {E : List En} (h : StAt n0 W B most E) (hb : Below W.heap.size W W') : StAt n0 W' B most E := by
  obtain ⟨lv, mb, h1, h2, h3, h4⟩ := h
  exact ⟨lv, mb, below_block hb h1, h2.below hb, h3.below hb, h4⟩
theorem StAt.lt {n0 B most : Nat} {W : World} {E : List En} (h : StAt n0 W B most E) : n0 ≤ W.heap.size := by
  obtain ⟨lv, mb, h1, h2, h3, h4, h5⟩ := h
  exact Nat.le_trans h4 (Nat.le_of_lt (Array.getElem?_eq_some_iff.1 h1).1)
/-- What is known of a number. -/
def entAt (E : List En) (i : Nat) : En := if i = 0 then ⟨⟨0, 0, 0, 0, 0⟩, wt [], 0, true⟩ else (E[i - 1]?).getD ⟨⟨0, 0, 0, 0, 0⟩, wt [], 0, true⟩
theorem entAt_some {E : List En} {i : Nat} (h0 : 0 < i) (hi : i ≤ E.length) : entAt E i = E[i - 1]'(by omega) := by
  unfold entAt
  rw [if_neg (by omega), List.getElem?_eq_getElem (by omega)]; rfl
set_option maxRecDepth 100000 in
theorem known_any {n0 B most : Nat} {W : World} {E : List En} (h : StAt n0 W B most E) (i : Int) :
    Calls Try.prog 57 #[.pointer (some ⟨B, 0, none⟩), .int .i64 i] W fun e w' => e = .returned (.bool (decide (0 ≤ i ∧ i ≤ E.length))) ∧ w' = W := by
  obtain ⟨lv, mb, h1, h2, -, -, -⟩ := h
  obtain ⟨a, cap, rfl⟩ := h2.len
  obtain ⟨-, c1, -, -⟩ := h1.cells
  clear h1 h2
  by_cases k1 : 0 ≤ i
  · by_cases k2 : i ≤ (E.length : Int)
    · rw [decide_eq_true (show 0 ≤ i ∧ i ≤ (E.length : Int) from ⟨k1, k2⟩)]
      go_enter Try.func57, Try.ntmps57
      go_wp2_with fail
      go_ret
      exact ⟨rfl, rfl⟩
    · rw [decide_eq_false (show ¬ (0 ≤ i ∧ i ≤ (E.length : Int)) from fun h => k2 h.2)]
      go_enter Try.func57, Try.ntmps57
      go_wp2_with fail
      go_ret
      exact ⟨rfl, rfl⟩
  · rw [decide_eq_false (show ¬ (0 ≤ i ∧ i ≤ (E.length : Int)) from fun h => k1 h.1)]
    go_enter Try.func57, Try.ntmps57
    go_wp2_with fail
    go_ret
    exact ⟨rfl, rfl⟩
end M
end Go.Proofs.Ytpjcfepngjpfbaa
namespace Go.Proofs.Ytpjcfepngjpfbaa
open Go.RowKit
namespace M
attribute [local go_sem] Oper.semAt_some
/-- An entry in a block. -/
def EnC (W : World) (g : Nat) (e : En) : Prop := W.heap[g]? = some (.cells #[.int .i64 e.ru.kind, .int .u8 e.ru.letter, .int .i64 e.ru.left, .int .i64 e.ru.right, .int .i64 e.ru.times, .int .i64 e.w.len, .int .i64 e.w.lines, .int .i64 e.w.head, .int .i64 e.w.tail, .int .u64 e.w.d.v, .int .u64 e.w.d.s, .int .i64 e.depth, .bool e.even] 122 (0, 0))
def en0 : En := ⟨⟨0, 0, 0, 0, 0⟩, w0, 0, false⟩
section
variable {W : World} {g : Nat} {e : En}
theorem EnC.cells (h : EnC W g e) : W.cell? ⟨g, 0, none⟩ = some (.int .i64 e.ru.kind) ∧ W.cell? ⟨g, 1, none⟩ = some (.int .u8 e.ru.letter) ∧ W.cell? ⟨g, 2, none⟩ = some (.int .i64 e.ru.left) ∧ W.cell? ⟨g, 3, none⟩ = some (.int .i64 e.ru.right) ∧ W.cell? ⟨g, 4, none⟩ = some (.int .i64 e.ru.times) ∧ W.cell? ⟨g, 5, none⟩ = some (.int .i64 e.w.len) ∧ W.cell? ⟨g, 6, none⟩ = some (.int .i64 e.w.lines) ∧ W.cell? ⟨g, 7, none⟩ = some (.int .i64 e.w.head) ∧ W.cell? ⟨g, 8, none⟩ = some (.int .i64 e.w.tail) ∧ W.cell? ⟨g, 9, none⟩ = some (.int .u64 e.w.d.v) ∧ W.cell? ⟨g, 10, none⟩ = some (.int .u64 e.w.d.s) ∧ W.cell? ⟨g, 11, none⟩ = some (.int .i64 e.depth) ∧ W.cell? ⟨g, 12, none⟩ = some (.bool e.even) := by
  unfold EnC at h
  simp [World.cell?, h]
theorem EnC.free (h : EnC W g e) (i : Nat) : W.frozen? ⟨g, i, none⟩ = false := by
  unfold EnC at h
  simp [World.frozen?, h]
abbrev setE (W : World) (g : Nat) (e : En) : World := (((((((((((((W).setCell ⟨g, 0, none⟩ (.int .i64 e.ru.kind)).setCell ⟨g, 1, none⟩ (.int .u8 e.ru.letter)).setCell ⟨g, 2, none⟩ (.int .i64 e.ru.left)).setCell ⟨g, 3, none⟩ (.int .i64 e.ru.right)).setCell ⟨g, 4, none⟩ (.int .i64 e.ru.times)).setCell ⟨g, 5, none⟩ (.int .i64 e.w.len)).setCell ⟨g, 6, none⟩ (.int .i64 e.w.lines)).setCell ⟨g, 7, none⟩ (.int .i64 e.w.head)).setCell ⟨g, 8, none⟩ (.int .i64 e.w.tail)).setCell ⟨g, 9, none⟩ (.int .u64 e.w.d.v)).setCell ⟨g, 10, none⟩ (.int .u64 e.w.d.s)).setCell ⟨g, 11, none⟩ (.int .i64 e.depth)).setCell ⟨g, 12, none⟩ (.bool e.even)
set_option maxHeartbeats 1000000 in
theorem EnC.set {e0 : En} (h : EnC W g e0) (e : En) : EnC (setE W g e) g e := by
  unfold EnC at h ⊢
  have h1 := heap_set0 (i := 0) (.int .i64 e.ru.kind) h
  have h2 := heap_set0 (i := 1) (.int .u8 e.ru.letter) h1
  have h3 := heap_set0 (i := 2) (.int .i64 e.ru.left) h2
  have h4 := heap_set0 (i := 3) (.int .i64 e.ru.right) h3
  have h5 := heap_set0 (i := 4) (.int .i64 e.ru.times) h4
  have h6 := heap_set0 (i := 5) (.int .i64 e.w.len) h5
  have h7 := heap_set0 (i := 6) (.int .i64 e.w.lines) h6
  have h8 := heap_set0 (i := 7) (.int .i64 e.w.head) h7
  have h9 := heap_set0 (i := 8) (.int .i64 e.w.tail) h8
  have h10 := heap_set0 (i := 9) (.int .u64 e.w.d.v) h9
  have h11 := heap_set0 (i := 10) (.int .u64 e.w.d.s) h10
  have h12 := heap_set0 (i := 11) (.int .i64 e.depth) h11
  have h13 := heap_set0 (i := 12) (.bool e.even) h12
  simp only [List.setIfInBounds_toArray, List.set_cons_zero, List.set_cons_succ] at h13
  exact h13
theorem setE_below {n : Nat} {A : World} (h : Below n A W) (hg : n ≤ g) (e : En) : Below n A (setE W g e) :=
  (((((((((((((h).setCell (p := ⟨g, 0, none⟩) hg _).setCell (p := ⟨g, 1, none⟩) hg _).setCell (p := ⟨g, 2, none⟩) hg _).setCell (p := ⟨g, 3, none⟩) hg _).setCell (p := ⟨g, 4, none⟩) hg _).setCell (p := ⟨g, 5, none⟩) hg _).setCell (p := ⟨g, 6, none⟩) hg _).setCell (p := ⟨g, 7, none⟩) hg _).setCell (p := ⟨g, 8, none⟩) hg _).setCell (p := ⟨g, 9, none⟩) hg _).setCell (p := ⟨g, 10, none⟩) hg _).setCell (p := ⟨g, 11, none⟩) hg _).setCell (p := ⟨g, 12, none⟩) hg _
end
set_option maxRecDepth 100000 in
set_option maxHeartbeats 1000000 in
theorem at_any {n0 B most : Nat} {W : World} {E : List En} (h : StAt n0 W B most E) {i : Nat} (hi : i ≤ E.length) (hE : E.length ≤ 1048576) :
    Calls Try.prog 73 #[.pointer (some ⟨B, 0, none⟩), .int .i64 i] W fun e w' => e = .returned (enV (entAt E i)) ∧ Below W.heap.size W w' := by
  obtain ⟨W1, hW1⟩ : ∃ w, W.alloc (.cells #[.int .i64 0, .int .u8 0, .int .i64 0, .int .i64 0, .int .i64 0, .int .i64 0, .int .i64 0, .int .i64 0, .int .i64 0, .int .u64 0, .int .u64 0, .int .i64 0, .bool false] 122) = w := ⟨_, rfl⟩
  have k1 : EnC W1 W.heap.size en0 := by rw [← hW1]; exact heap_new' _ _
  have b1 : Below W.heap.size W W1 := by rw [← hW1]; exact (Below.refl _ _).alloc (Nat.le_refl _) _
  have K1 := Lib.hid k1; have B1 := Lib.hid b1
  obtain ⟨lv, mb, h1, h2, h3, h4, h5⟩ := h.below b1
  clear h
  obtain ⟨-, c1, -, -⟩ := h1.cells
  by_cases h0 : i = 0
  · subst h0
    have HW : Hid (entAt E 0 = ⟨⟨0, 0, 0, 0, 0⟩, wt [], 0, true⟩) := Lib.hid rfl
    clear h1 h2 h3 h4 h5 c1 k1 b1
    go_enter Try.func73, Try.ntmps73
    go_wp2_with fail
    refine (wunit_any W1).mono ?_; rintro e w2 ⟨rfl, b2⟩
    obtain ⟨wu, hwu⟩ : ∃ u, wt [] = u := ⟨_, rfl⟩
    have ev : wtV wu = .agg #[.int .i64 wu.len, .int .i64 wu.lines, .int .i64 wu.head, .int .i64 wu.tail, .int .u64 wu.d.v, .int .u64 wu.d.s] := rfl
    rw [hwu, ev]
    rw [hwu] at HW
    clear hwu ev
    have k2 := below_block b2 K1.out
    obtain ⟨x0, x1, x2, x3, x4, x5, x6, x7, x8, x9, x10, x11, x12⟩ := EnC.cells k2
    have f0 := EnC.free k2 0; have f1 := EnC.free k2 1; have f2 := EnC.free k2 2; have f3 := EnC.free k2 3; have f4 := EnC.free k2 4; have f5 := EnC.free k2 5; have f6 := EnC.free k2 6; have f7 := EnC.free k2 7; have f8 := EnC.free k2 8; have f9 := EnC.free k2 9; have f10 := EnC.free k2 10; have f11 := EnC.free k2 11; have f12 := EnC.free k2 12
    simp only [en0, w0] at x0 x1 x2 x3 x4 x5 x6 x7 x8 x9 x10 x11 x12
    obtain ⟨w3, hw3⟩ : ∃ w, setE w2 W.heap.size ⟨⟨0, 0, 0, 0, 0⟩, wu, 0, true⟩ = w := ⟨_, rfl⟩
    have K3 := Lib.hid (EnC.set k2 ⟨⟨0, 0, 0, 0, 0⟩, wu, 0, true⟩)
    have B3 := Lib.hid (setE_below (Below.after B1.out b2) (Nat.le_refl _) ⟨⟨0, 0, 0, 0, 0⟩, wu, 0, true⟩)
    rw [hw3] at K3 B3
    have hw3' : (((((((((((((w2).setCell ⟨W.heap.size, 0, none⟩ (.int .i64 0)).setCell ⟨W.heap.size, 1, none⟩ (.int .u8 0)).setCell ⟨W.heap.size, 2, none⟩ (.int .i64 0)).setCell ⟨W.heap.size, 3, none⟩ (.int .i64 0)).setCell ⟨W.heap.size, 4, none⟩ (.int .i64 0)).setCell ⟨W.heap.size, 5, none⟩ (.int .i64 wu.len)).setCell ⟨W.heap.size, 6, none⟩ (.int .i64 wu.lines)).setCell ⟨W.heap.size, 7, none⟩ (.int .i64 wu.head)).setCell ⟨W.heap.size, 8, none⟩ (.int .i64 wu.tail)).setCell ⟨W.heap.size, 9, none⟩ (.int .u64 wu.d.v)).setCell ⟨W.heap.size, 10, none⟩ (.int .u64 wu.d.s)).setCell ⟨W.heap.size, 11, none⟩ (.int .i64 0)).setCell ⟨W.heap.size, 12, none⟩ (.bool true) = w3 := hw3
    clear hw3 k2 b2 hW1
    go_wp2_with fail
    obtain ⟨x0, x1, x2, x3, x4, x5, x6, x7, x8, x9, x10, x11, x12⟩ := K3.out.cells
    exact bodyPost_ret (v := enV ⟨⟨0, 0, 0, 0, 0⟩, wu, 0, true⟩) (by simp [results, Try.results73, go_sem, x0, x1, x2, x3, x4, x5, x6, x7, x8, x9, x10, x11, x12]) rfl ⟨by rw [HW.out], B3.out⟩
  · have hi0 : ((i : Int) == 0) = false := by simp; omega
    have hlt : i - 1 < E.length := by omega
    obtain ⟨g, cap, rfl, -, -, hc⟩ := h2.at hlt
    obtain ⟨⟨q0, q1, q2, q3, q4⟩, ⟨q5, q6, q7, q8, q9, q10⟩, q11, q12⟩ := hc W1 (Below.refl _ _) (i - 1) hlt
    have HW := Lib.hid (entAt_some (by omega) hi)
    generalize E[i - 1] = e at *
    have hs : IntKind.i64.wrap ((i : Int) - 1) = ((i - 1 : Nat) : Int) := by rw [IntKind.wrap_i64]; omega
    have hi3 : ((i - 1 : Nat) : Int) < (E.length : Int) := by omega
    have hi4 : (0 : Int) ≤ ((i - 1 : Nat) : Int) := by omega
    obtain ⟨j, hj⟩ : ∃ j, i - 1 = j := ⟨_, rfl⟩
    rw [hj] at hs hi3 hi4 q0 q1 q2 q3 q4 q5 q6 q7 q8 q9 q10 q11 q12
    obtain ⟨x0, x1, x2, x3, x4, x5, x6, x7, x8, x9, x10, x11, x12⟩ := k1.cells
    have k2 := k1
    have f0 := EnC.free k2 0; have f1 := EnC.free k2 1; have f2 := EnC.free k2 2; have f3 := EnC.free k2 3; have f4 := EnC.free k2 4; have f5 := EnC.free k2 5; have f6 := EnC.free k2 6; have f7 := EnC.free k2 7; have f8 := EnC.free k2 8; have f9 := EnC.free k2 9; have f10 := EnC.free k2 10; have f11 := EnC.free k2 11; have f12 := EnC.free k2 12
    simp only [en0, w0] at x0 x1 x2 x3 x4 x5 x6 x7 x8 x9 x10 x11 x12
    obtain ⟨w3, hw3⟩ : ∃ w, setE W1 W.heap.size e = w := ⟨_, rfl⟩
    have K3 := Lib.hid (EnC.set k1 e)
    have B3 := Lib.hid (setE_below b1 (Nat.le_refl _) e)
    rw [hw3] at K3 B3
    simp only [setE] at hw3
    clear h1 h2 h3 h4 h5 hc k1 k2 b1 hlt hj
    go_enter Try.func73, Try.ntmps73
    go_wp2_with fail
    obtain ⟨x0, x1, x2, x3, x4, x5, x6, x7, x8, x9, x10, x11, x12⟩ := K3.out.cells
    exact bodyPost_ret (v := enV e) (by simp [results, Try.results73, go_sem, x0, x1, x2, x3, x4, x5, x6, x7, x8, x9, x10, x11, x12]) rfl ⟨by rw [HW.out], B3.out⟩
end M
end Go.Proofs.Ytpjcfepngjpfbaa
