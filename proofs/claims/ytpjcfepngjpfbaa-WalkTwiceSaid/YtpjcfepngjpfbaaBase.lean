/- Worlds, boxes, rows that are only read. No program. -/
import Derived.Below
import Derived.WalkKit
import Derived.Lib.Hide
namespace Go.Proofs.Ytpjcfepngjpfbaa
open Go.RowKit

theorem wrap_in {x : Int} (h : -9223372036854775808 ≤ x) (h2 : x ≤ 9223372036854775807) : IntKind.i64.wrap x = x := by rw [IntKind.wrap_i64]; omega
theorem heap_new (W : World) (o : Obj) : (W.alloc o).heap[W.heap.size]? = some o := by
  show (W.heap.push o)[W.heap.size]? = _
  simp
theorem heap_new1 (W : World) (o o' : Obj) : ((W.alloc o).alloc o').heap[W.heap.size + 1]? = some o' := by
  have := heap_new (W.alloc o) o'; rwa [World.size_alloc] at this
theorem Below.step {A B C : World} (h : Below A.heap.size A B) (k : Below B.heap.size B C) : Below A.heap.size A C := h.trans (k.mono h.size)
theorem box_cell {W : World} {B : Nat} {t : TypeId} {v : Value} (h : W.heap[B]? = some (.cells #[v] t (0, 0))) : W.cell? ⟨B, 0, none⟩ = some v := by simp [World.cell?, h]
theorem box_frozen {W : World} {B : Nat} {t : TypeId} {v : Value} (h : W.heap[B]? = some (.cells #[v] t (0, 0))) : W.frozen? ⟨B, 0, none⟩ = false := by simp [World.frozen?, h]
theorem box_set {W : World} {B : Nat} {t : TypeId} {v : Value} (v' : Value) (h : W.heap[B]? = some (.cells #[v] t (0, 0))) : (W.setCell ⟨B, 0, none⟩ v').heap[B]? = some (.cells #[v'] t (0, 0)) := by
  obtain ⟨hlt, hk⟩ := Array.getElem?_eq_some_iff.1 h
  show (W.heap.modify B _)[B]? = _
  rw [Array.getElem?_eq_getElem (by rw [Array.size_modify]; exact hlt), Array.getElem_modify_self, hk]
  rfl
theorem box_below {A B : World} {b : Nat} {o : Obj} (hB : Below A.heap.size A B) (h : A.heap[b]? = some o) : B.heap[b]? = some o := (hB.block b (Array.getElem?_eq_some_iff.1 h).1).trans h
theorem cell_below {A C : World} {a : Addr} {v : Value} (h : A.cell? a = some v) (hb : Below A.heap.size A C) : C.cell? a = some v := by
  have h2 := h
  unfold World.cell? at h ⊢
  cases hh : A.heap[a.block]? with
  | none => rw [hh] at h; cases h
  | some o =>
    rw [hb.block a.block (Array.getElem?_eq_some_iff.1 hh).1]
    exact h
theorem add_add' (b : Addr) (i j : Nat) : (b.add i).add j = b.add (i + j) := by
  unfold Addr.add
  by_cases hi : i = 0 <;> by_cases hj : j = 0 <;> simp [hi, hj, Nat.add_assoc]

/-- A slice of values of one cell, wherever it lies. -/
def RowAt {α : Type} (enc : α → Value) (W : World) (v : Value) (L : List α) : Prop :=
  ∃ a cap, v = .slice a L.length cap ∧ L.length ≤ cap ∧ cap ≤ maxLen ∧ ∀ (i : Nat) (h : i < L.length), ∃ b, a = some b ∧ W.cell? (b.add i) = some (enc L[i])
theorem RowAt.below {α : Type} {enc : α → Value} {A C : World} {v : Value} {L : List α} (h : RowAt enc A v L) (hb : Below A.heap.size A C) : RowAt enc C v L := by
  obtain ⟨a, cap, rfl, h1, h2, h⟩ := h
  exact ⟨a, cap, rfl, h1, h2, fun i hi => (h i hi).imp fun b hh => ⟨hh.1, cell_below hh.2 hb⟩⟩
end Go.Proofs.Ytpjcfepngjpfbaa
