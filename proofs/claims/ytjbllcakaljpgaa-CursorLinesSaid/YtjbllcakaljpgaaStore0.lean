/- The store of rules: its blocks; known, at. -/
import Derived.Test.YtjbllcakaljpgaaRuMap
namespace Go.Proofs.Ytjbllcakaljpgaa
open Go.RowKit
namespace M
attribute [local go_sem] Oper.semAt_some
def enL (e : En) : List Value := [.int .i64 e.ru.kind, .int .u8 e.ru.letter, .int .i64 e.ru.left, .int .i64 e.ru.right, .int .i64 e.ru.times, .int .i64 e.w.len, .int .i64 e.w.lines, .int .i64 e.w.head, .int .i64 e.w.tail, .int .u64 e.w.d.v, .int .u64 e.w.d.s, .int .i64 e.depth, .bool e.even]
theorem enL_len (e : En) : (enL e).length = 13 := rfl
abbrev enV (e : En) : Value := .agg #[.int .i64 e.ru.kind, .int .u8 e.ru.letter, .int .i64 e.ru.left, .int .i64 e.ru.right, .int .i64 e.ru.times, .int .i64 e.w.len, .int .i64 e.w.lines, .int .i64 e.w.head, .int .i64 e.w.tail, .int .u64 e.w.d.v, .int .u64 e.w.d.s, .int .i64 e.depth, .bool e.even]
abbrev Ens (B : Nat) (W : World) (v : Value) (E : List En) : Prop := SlA B W 117 13 enL v E
theorem elemE : Elem Try.prog 128 117 13 104 := elem_of Try.underlying128 (z := .agg #[.int .i64 0, .int .u8 0, .int .i64 0, .int .i64 0, .int .i64 0, .int .i64 0, .int .i64 0, .int .i64 0, .int .i64 0, .int .u64 0, .int .u64 0, .int .i64 0, .bool false]) (by kernel_rfl) rfl (by decide) (by decide)
/-- Thirteen cells of an entry from an offset on. -/
def EnAt (W : World) (g o : Nat) (e : En) : Prop := (W.cell? ⟨g, o, none⟩ = some (.int .i64 e.ru.kind) ∧ W.cell? ⟨g, o + 1, none⟩ = some (.int .u8 e.ru.letter) ∧ W.cell? ⟨g, o + 2, none⟩ = some (.int .i64 e.ru.left) ∧ W.cell? ⟨g, o + 3, none⟩ = some (.int .i64 e.ru.right) ∧ W.cell? ⟨g, o + 4, none⟩ = some (.int .i64 e.ru.times)) ∧
  (W.cell? ⟨g, o + 5, none⟩ = some (.int .i64 e.w.len) ∧ W.cell? ⟨g, o + 6, none⟩ = some (.int .i64 e.w.lines) ∧ W.cell? ⟨g, o + 7, none⟩ = some (.int .i64 e.w.head) ∧ W.cell? ⟨g, o + 8, none⟩ = some (.int .i64 e.w.tail) ∧ W.cell? ⟨g, o + 9, none⟩ = some (.int .u64 e.w.d.v) ∧ W.cell? ⟨g, o + 10, none⟩ = some (.int .u64 e.w.d.s)) ∧
  W.cell? ⟨g, o + 11, none⟩ = some (.int .i64 e.depth) ∧ W.cell? ⟨g, o + 12, none⟩ = some (.bool e.even)
theorem Ens.at {B : Nat} {W : World} {v : Value} {E : List En} (h : Ens B W v E) {i : Nat} (hi : i < E.length) :
    ∃ g cap, v = .slice (some ⟨g, 0, none⟩) E.length cap ∧ E.length ≤ cap ∧ cap ≤ maxLen ∧ ∀ (W' : World), Below W.heap.size W W' → ∀ i (hi : i < E.length), EnAt W' g (i * 13) E[i] := by
  rcases h.shape with ⟨-, rfl⟩ | ⟨g, cap, rfl, h1, h2⟩
  · simp at hi
  · refine ⟨g, cap, rfl, h1, h2, fun W' hb i hi => ?_⟩
    have h' := h.below hb
    have c := fun (j : Nat) (hj : j < 13) => SlA.cell enL_len h' hi (j := j) hj
    exact ⟨⟨c 0 (by omega), c 1 (by omega), c 2 (by omega), c 3 (by omega), c 4 (by omega)⟩, ⟨c 5 (by omega), c 6 (by omega), c 7 (by omega), c 8 (by omega), c 9 (by omega), c 10 (by omega)⟩, c 11 (by omega), c 12 (by omega)⟩
/-- The store's own block. -/
def StC (W : World) (B most : Nat) (lv : Value) (mb : Nat) : Prop := W.heap[B]? = some (.cells #[.int .i64 most, lv, .map (some mb)] 130 (0, 0))
theorem StC.cells {W : World} {B most mb : Nat} {lv : Value} (h : StC W B most lv mb) : W.cell? ⟨B, 0, none⟩ = some (.int .i64 most) ∧ W.cell? ⟨B, 1, none⟩ = some lv ∧ W.cell? ⟨B, 2, none⟩ = some (.map (some mb)) ∧ W.frozen? ⟨B, 1, none⟩ = false := by
  unfold StC at h
  simp [World.cell?, World.frozen?, h]
/-- A store; nothing of it lies below n0. -/
def StAt (n0 : Nat) (W : World) (B most : Nat) (E : List En) : Prop := ∃ lv mb, StC W B most lv mb ∧ Ens n0 W lv E ∧ MapR W mb E ∧ n0 ≤ B ∧ n0 ≤ mb
theorem StAt.below {n0 B most : Nat} {W W' : World} {E : List En} (h : StAt n0 W B most E) (hb : Below W.heap.size W W') : StAt n0 W' B most E := by
  obtain ⟨lv, mb, h1, h2, h3, h4⟩ := h
  exact ⟨lv, mb, below_block hb h1, h2.below hb, h3.below hb, h4⟩
theorem StAt.lt {n0 B most : Nat} {W : World} {E : List En} (h : StAt n0 W B most E) : n0 ≤ W.heap.size := by
  obtain ⟨lv, mb, h1, h2, h3, h4, h5⟩ := h
  exact Nat.le_trans h4 (Nat.le_of_lt (Array.getElem?_eq_some_iff.1 h1).1)
/-- What is known of a number. -/
def entAt (E : List En) (i : Nat) : En := if i = 0 then ⟨⟨0, 0, 0, 0, 0⟩, wt [], 0, true⟩ else (E[i - 1]?).getD ⟨⟨0, 0, 0, 0, 0⟩, wt [], 0, true⟩
theorem entAt_some {E : List En} {i : Nat} (h0 : 0 < i) (hi : i ≤ E.length) : entAt E i = E[i - 1]'(by omega) := by
  unfold entAt
  rw [if_neg (by omega), List.getElem?_eq_getElem (by omega)]; rfl
set_option maxRecDepth 100000 in
theorem known_any {n0 B most : Nat} {W : World} {E : List En} (h : StAt n0 W B most E) (i : Int) :
    Calls Try.prog 58 #[.pointer (some ⟨B, 0, none⟩), .int .i64 i] W fun e w' => e = .returned (.bool (decide (0 ≤ i ∧ i ≤ E.length))) ∧ w' = W := by
  obtain ⟨lv, mb, h1, h2, -, -, -⟩ := h
  obtain ⟨a, cap, rfl⟩ := h2.len
  obtain ⟨-, c1, -, -⟩ := h1.cells
  clear h1 h2
  by_cases k1 : 0 ≤ i
  · by_cases k2 : i ≤ (E.length : Int)
    · rw [decide_eq_true (show 0 ≤ i ∧ i ≤ (E.length : Int) from ⟨k1, k2⟩)]
      go_enter Try.func58, Try.ntmps58
      go_wp2_with fail
      go_ret
      exact ⟨rfl, rfl⟩
    · rw [decide_eq_false (show ¬ (0 ≤ i ∧ i ≤ (E.length : Int)) from fun h => k2 h.2)]
      go_enter Try.func58, Try.ntmps58
      go_wp2_with fail
      go_ret
      exact ⟨rfl, rfl⟩
  · rw [decide_eq_false (show ¬ (0 ≤ i ∧ i ≤ (E.length : Int)) from fun h => k1 h.1)]
    go_enter Try.func58, Try.ntmps58
    go_wp2_with fail
    go_ret
    exact ⟨rfl, rfl⟩
end M
end Go.Proofs.Ytjbllcakaljpgaa
