/- Boxes into which a Made, a value, two numbers are laid; letters of a list; evergreenref01's Clip. -/
import Derived.Test.YtpjcfepngjpfbaaLetSeq
import Derived.Test.YtpjcfepngjpfbaaMd14
namespace Go.Proofs.Ytpjcfepngjpfbaa
open Go.RowKit Go.Lib
namespace M
attribute [local go_sem] Oper.semAt_some
theorem lzs_snd : ∀ (l : List Nat) (a : Nat), (lzs l a).map (·.2) = l
  | [], _ => rfl
  | b :: l, a => by show b :: (lzs l (a + 1)).map (·.2) = b :: l; rw [lzs_snd l]
/-- A box into which a Made is laid. -/
theorem newMd (w : World) (B : Nat) (iv lv tv : Value) : ∃ wz w2, w.alloc (.cells #[.pointer none, .slice none 0 0, .slice none 0 0, .slice none 0 0] 28) = wz ∧
    (((wz.setCell ⟨w.heap.size, 0, none⟩ (.pointer (some ⟨B, 0, none⟩))).setCell ⟨w.heap.size, 1, none⟩ iv).setCell ⟨w.heap.size, 2, none⟩ lv).setCell ⟨w.heap.size, 3, none⟩ tv = w2 ∧
    McC w2 w.heap.size B iv lv tv ∧ Below w.heap.size w w2 ∧ MzC wz w.heap.size := by
  have k0 : MzC (w.alloc (.cells #[.pointer none, .slice none 0 0, .slice none 0 0, .slice none 0 0] 28)) w.heap.size := heap_new' _ _
  have b0 : Below w.heap.size w (w.alloc (.cells #[.pointer none, .slice none 0 0, .slice none 0 0, .slice none 0 0] 28)) := (Below.refl _ _).alloc (Nat.le_refl _) _
  refine ⟨_, _, rfl, rfl, ?_, (((b0.setCell (p := ⟨w.heap.size, 0, none⟩) (Nat.le_refl _) _).setCell (p := ⟨w.heap.size, 1, none⟩) (Nat.le_refl _) _).setCell (p := ⟨w.heap.size, 2, none⟩) (Nat.le_refl _) _).setCell (p := ⟨w.heap.size, 3, none⟩) (Nat.le_refl _) _, k0⟩
  unfold MzC at k0
  exact heap_set0 _ (heap_set0 _ (heap_set0 _ (heap_set0 _ k0)))
/-- A box into which a value is laid. -/
theorem newBx (w : World) (t : TypeId) (z v : Value) : ∃ wz w2, w.alloc (.cells #[z] t) = wz ∧ wz.setCell ⟨w.heap.size, 0, none⟩ v = w2 ∧ w2.heap[w.heap.size]? = some (.cells #[v] t (0, 0)) ∧ Below w.heap.size w w2 ∧ wz.cell? ⟨w.heap.size, 0, none⟩ = some z ∧ wz.frozen? ⟨w.heap.size, 0, none⟩ = false := by
  have k0 : (w.alloc (.cells #[z] t)).heap[w.heap.size]? = some (.cells #[z] t (0, 0)) := heap_new' _ _
  have b0 : Below w.heap.size w (w.alloc (.cells #[z] t)) := (Below.refl _ _).alloc (Nat.le_refl _) _
  generalize w.alloc (.cells #[z] t) = wz at k0 b0
  exact ⟨_, _, rfl, rfl, heap_set0 _ k0, b0.setCell (p := ⟨w.heap.size, 0, none⟩) (Nat.le_refl _) _, by simp [World.cell?, k0], by simp [World.frozen?, k0]⟩
theorem newTwo (w : World) : ∃ wz wy wx w2, w.alloc (.cells #[.int .i64 0] 3) = wz ∧ wz.alloc (.cells #[.int .i64 0] 3) = wy ∧ wy.setCell ⟨w.heap.size, 0, none⟩ (.int .i64 0) = wx ∧ wx.setCell ⟨w.heap.size + 1, 0, none⟩ (.int .i64 0) = w2 ∧ wz.heap.size = w.heap.size + 1 ∧
    (wy.cell? ⟨w.heap.size, 0, none⟩ = some (.int .i64 0) ∧ wy.frozen? ⟨w.heap.size, 0, none⟩ = false) ∧ (wx.cell? ⟨w.heap.size + 1, 0, none⟩ = some (.int .i64 0) ∧ wx.frozen? ⟨w.heap.size + 1, 0, none⟩ = false) ∧
    (w2.heap[w.heap.size]? = some (.cells #[.int .i64 0] 3 (0, 0)) ∧ w2.heap[w.heap.size + 1]? = some (.cells #[.int .i64 0] 3 (0, 0))) ∧ Below w.heap.size w w2 := by
  obtain ⟨wz, hz⟩ : ∃ y, w.alloc (.cells #[.int .i64 0] 3) = y := ⟨_, rfl⟩
  obtain ⟨wy, hy⟩ : ∃ y, wz.alloc (.cells #[.int .i64 0] 3) = y := ⟨_, rfl⟩
  obtain ⟨wx, hx⟩ : ∃ y, wy.setCell ⟨w.heap.size, 0, none⟩ (.int .i64 0) = y := ⟨_, rfl⟩
  obtain ⟨w2, h2⟩ : ∃ y, wx.setCell ⟨w.heap.size + 1, 0, none⟩ (.int .i64 0) = y := ⟨_, rfl⟩
  have s1 : wz.heap.size = w.heap.size + 1 := by rw [← hz]; simp
  have b1 : Below w.heap.size w wz := by rw [← hz]; exact (Below.refl _ _).alloc (Nat.le_refl _) _
  have b2 : Below wz.heap.size wz wy := by rw [← hy]; exact (Below.refl _ _).alloc (Nat.le_refl _) _
  have k1 : wz.heap[w.heap.size]? = some (.cells #[.int .i64 0] 3 (0, 0)) := by rw [← hz]; exact heap_new' _ _
  have k2 : wy.heap[w.heap.size]? = some (.cells #[.int .i64 0] 3 (0, 0)) := below_block b2 k1
  have j2 : wy.heap[w.heap.size + 1]? = some (.cells #[.int .i64 0] 3 (0, 0)) := by rw [← hy, ← s1]; exact heap_new' _ _
  have k3 : wx.heap[w.heap.size]? = some (.cells #[.int .i64 0] 3 (0, 0)) := by rw [← hx]; exact heap_set0 _ k2
  have j3 : wx.heap[w.heap.size + 1]? = some (.cells #[.int .i64 0] 3 (0, 0)) := by rw [← hx]; exact set_other (by omega) j2
  have k4 : w2.heap[w.heap.size]? = some (.cells #[.int .i64 0] 3 (0, 0)) := by rw [← h2]; exact set_other (by omega) k3
  have j4 : w2.heap[w.heap.size + 1]? = some (.cells #[.int .i64 0] 3 (0, 0)) := by rw [← h2]; exact heap_set0 _ j3
  refine ⟨wz, wy, wx, w2, hz, hy, hx, h2, s1, ⟨by simp [World.cell?, k2], by simp [World.frozen?, k2]⟩, ⟨by simp [World.cell?, j3], by simp [World.frozen?, j3]⟩, ⟨k4, j4⟩, ?_⟩
  rw [← h2, ← hx]
  exact ((Below.after b1 b2).setCell (p := ⟨w.heap.size, 0, none⟩) (Nat.le_refl _) _).setCell (p := ⟨w.heap.size + 1, 0, none⟩) (by simp) _
set_option maxRecDepth 100000 in
theorem clipR_any (W : World) (n l h : Int) : Calls Try.prog 32 #[.int .i64 n, .int .i64 l, .int .i64 h] W fun e w' => e = .returned (.int .i64 (if n < l then l else if n > h then h else n)) ∧ w' = W := by
  by_cases h1 : n < l
  · rw [if_pos h1]
    go_enter Try.func32, Try.ntmps32
    go_wp2_with fail
    go_ret
    exact ⟨rfl, rfl⟩
  · rw [if_neg h1]
    by_cases h2 : n > h
    · rw [if_pos h2]
      go_enter Try.func32, Try.ntmps32
      go_wp2_with fail
      go_ret
      exact ⟨rfl, rfl⟩
    · rw [if_neg h2]
      go_enter Try.func32, Try.ntmps32
      go_wp2_with fail
      go_ret
      exact ⟨rfl, rfl⟩
end M
end Go.Proofs.Ytpjcfepngjpfbaa
