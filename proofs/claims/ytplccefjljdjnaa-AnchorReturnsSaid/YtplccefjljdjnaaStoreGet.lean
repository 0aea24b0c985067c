/- The store of rules: Rule, Weight. -/
import Derived.Test.YtplccefjljdjnaaStoreLet
namespace Go.Proofs.Ytplccefjljdjnaa
open Go.RowKit
namespace M
attribute [local go_sem] Oper.semAt_some
set_option maxRecDepth 100000 in
set_option maxHeartbeats 1000000 in
theorem rule_any {n0 B most : Nat} {W : World} {E : List En} (h : StAt n0 W B most E) {i : Nat} (h0 : 0 < i) (hi : i ≤ E.length) (hE : E.length ≤ 1048576) :
    Calls Try.prog 63 #[.pointer (some ⟨B, 0, none⟩), .int .i64 i] W fun e w' => e = .returned (.tuple #[ruV (entAt E i).ru, .nilIface]) ∧ Below W.heap.size W w' := by
  obtain ⟨W1, hW1⟩ : ∃ w, W.alloc (.cells #[.int .i64 0, .int .u8 0, .int .i64 0, .int .i64 0, .int .i64 0] 111) = w := ⟨_, rfl⟩
  have k1 : RuC W1 W.heap.size ⟨0, 0, 0, 0, 0⟩ := by rw [← hW1]; exact heap_new' _ _
  have b1 : Below W.heap.size W W1 := by rw [← hW1]; exact (Below.refl _ _).alloc (Nat.le_refl _) _
  have HKN := Lib.hid (known_any (h.below b1) (i : Int))
  rw [decide_eq_true (show 0 ≤ (i : Int) ∧ (i : Int) ≤ (E.length : Int) by omega)] at HKN
  obtain ⟨lv, mb, h1, h2, h3, h4, h5⟩ := h.below b1
  clear h
  obtain ⟨-, c1, -, -⟩ := h1.cells
  have hi0 : ((i : Int) == 0) = false := by simp; omega
  have hlt : i - 1 < E.length := by omega
  obtain ⟨g, cap, rfl, -, -, hc⟩ := h2.at hlt
  obtain ⟨⟨q0, q1, q2, q3, q4⟩, -⟩ := hc W1 (Below.refl _ _) (i - 1) hlt
  have HW := Lib.hid (entAt_some h0 hi)
  generalize E[i - 1] = e at *
  have hs : IntKind.i64.wrap ((i : Int) - 1) = ((i - 1 : Nat) : Int) := by rw [IntKind.wrap_i64]; omega
  have hi3 : ((i - 1 : Nat) : Int) < (E.length : Int) := by omega
  have hi4 : (0 : Int) ≤ ((i - 1 : Nat) : Int) := by omega
  obtain ⟨j, hj⟩ : ∃ j, i - 1 = j := ⟨_, rfl⟩
  rw [hj] at hs hi3 hi4 q0 q1 q2 q3 q4
  obtain ⟨x0, x1, x2, x3, x4⟩ : W1.cell? ⟨W.heap.size, 0, none⟩ = some (.int .i64 0) ∧ W1.cell? ⟨W.heap.size, 1, none⟩ = some (.int .u8 0) ∧ W1.cell? ⟨W.heap.size, 2, none⟩ = some (.int .i64 0) ∧ W1.cell? ⟨W.heap.size, 3, none⟩ = some (.int .i64 0) ∧ W1.cell? ⟨W.heap.size, 4, none⟩ = some (.int .i64 0) := k1.cells
  have f0 := k1.free 0; have f1 := k1.free 1; have f2 := k1.free 2; have f3 := k1.free 3; have f4 := k1.free 4
  obtain ⟨w3, hw3⟩ : ∃ w, ((((W1.setCell ⟨W.heap.size, 0, none⟩ (.int .i64 e.ru.kind)).setCell ⟨W.heap.size, 1, none⟩ (.int .u8 e.ru.letter)).setCell ⟨W.heap.size, 2, none⟩ (.int .i64 e.ru.left)).setCell ⟨W.heap.size, 3, none⟩ (.int .i64 e.ru.right)).setCell ⟨W.heap.size, 4, none⟩ (.int .i64 e.ru.times) = w := ⟨_, rfl⟩
  have K3 : Hid (RuC w3 W.heap.size e.ru) := Lib.hid (by rw [← hw3]; exact k1.set e.ru)
  have B3 : Hid (Below W.heap.size W w3) := Lib.hid (by
    rw [← hw3]
    exact ((((b1.setCell (p := ⟨W.heap.size, 0, none⟩) (Nat.le_refl _) _).setCell (p := ⟨W.heap.size, 1, none⟩) (Nat.le_refl _) _).setCell (p := ⟨W.heap.size, 2, none⟩) (Nat.le_refl _) _).setCell (p := ⟨W.heap.size, 3, none⟩) (Nat.le_refl _) _).setCell (p := ⟨W.heap.size, 4, none⟩) (Nat.le_refl _) _)
  clear h1 h2 h3 h4 h5 hc k1 b1 hlt hj
  go_enter Try.func63, Try.ntmps63
  go_wp2_with fail
  refine HKN.out.mono ?_; rintro e' w4 ⟨rfl, h⟩; rw [h]; clear h w4
  go_wp2_with fail
  obtain ⟨x0, x1, x2, x3, x4⟩ := K3.out.cells
  exact bodyPost_ret (v := .tuple #[ruV e.ru, .nilIface]) (by simp [results, Try.results63, go_sem, x0, x1, x2, x3, x4]) rfl ⟨by rw [HW.out], B3.out⟩
set_option maxRecDepth 100000 in
set_option maxHeartbeats 1000000 in
theorem weight_any {n0 B most : Nat} {W : World} {E : List En} (h : StAt n0 W B most E) {i : Nat} (hi : i ≤ E.length) (hE : E.length ≤ 1048576) :
    Calls Try.prog 62 #[.pointer (some ⟨B, 0, none⟩), .int .i64 i] W fun e w' => e = .returned (.tuple #[wtV (entAt E i).w, .nilIface]) ∧ Below W.heap.size W w' := by
  obtain ⟨W1, hW1⟩ : ∃ w, W.alloc (.cells #[.int .i64 0, .int .i64 0, .int .i64 0, .int .i64 0, .int .u64 0, .int .u64 0] 118) = w := ⟨_, rfl⟩
  have k1 : WtC W1 W.heap.size w0 := by rw [← hW1]; exact heap_new' _ _
  have b1 : Below W.heap.size W W1 := by rw [← hW1]; exact (Below.refl _ _).alloc (Nat.le_refl _) _
  have HKN := Lib.hid (known_any (h.below b1) (i : Int))
  rw [decide_eq_true (show 0 ≤ (i : Int) ∧ (i : Int) ≤ (E.length : Int) by omega)] at HKN
  have HAT := Lib.hid (at_any (h.below b1) hi hE)
  have hfl : ∀ (a b c d e f g h i j k l m : Value) (w : World), (Instr.field 121 (.agg #[a, b, c, d, e, f, g, h, i, j, k, l, m]) 1).run Try.prog w = .ok (.agg #[f, g, h, i, j, k]) w := fun _ _ _ _ _ _ _ _ _ _ _ _ _ _ => by kernel_rfl
  have K1 := Lib.hid k1; have B1 := Lib.hid b1
  obtain ⟨e, he⟩ : ∃ e, entAt E i = e := ⟨_, rfl⟩
  rw [he] at HAT ⊢
  unfold enV at HAT
  clear h k1 b1 he
  go_enter Try.func62, Try.ntmps62
  go_wp2_with fail
  refine HKN.out.mono ?_; rintro e' w4 ⟨rfl, h⟩; rw [h]; clear h w4 hW1
  go_wp2_with fail
  refine HAT.out.mono ?_; rintro e' w2 ⟨rfl, b2⟩
  have k2 := below_block b2 K1.out
  obtain ⟨x0, x1, x2, x3, x4, x5⟩ := WtC.cells k2
  have f0 := WtC.free k2 0; have f1 := WtC.free k2 1; have f2 := WtC.free k2 2; have f3 := WtC.free k2 3; have f4 := WtC.free k2 4; have f5 := WtC.free k2 5
  simp only [w0] at x0 x1 x2 x3 x4 x5
  have K3 := Lib.hid (WtC.set k2 e.w)
  have B3 := Lib.hid (setW_below (Below.after B1.out b2) (Nat.le_refl _) e.w)
  obtain ⟨w3, hw3⟩ : ∃ w, setW w2 W.heap.size e.w = w := ⟨_, rfl⟩
  rw [hw3] at K3 B3
  simp only [setW] at hw3
  clear k2 b2
  go_wp2_with fail
  obtain ⟨x0, x1, x2, x3, x4, x5⟩ := K3.out.cells
  exact bodyPost_ret (v := .tuple #[wtV e.w, .nilIface]) (by simp [results, Try.results62, go_sem, x0, x1, x2, x3, x4, x5]) rfl ⟨rfl, B3.out⟩
end M
end Go.Proofs.Ytplccefjljdjnaa
