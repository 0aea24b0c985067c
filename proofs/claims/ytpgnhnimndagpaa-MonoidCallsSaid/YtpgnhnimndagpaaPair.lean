/- Boxes of two cells. No program. -/
import Derived.Test.YtpgnhnimndagpaaArr
namespace Go.Proofs.Ytpgnhnimndagpaa
open Go.RowKit
theorem box2_cell {W : World} {B : Nat} {t : TypeId} {a b : Value} (h : W.heap[B]? = some (.cells #[a, b] t (0, 0))) : W.cell? ⟨B, 0, none⟩ = some a ∧ W.cell? ⟨B, 1, none⟩ = some b ∧ W.frozen? ⟨B, 0, none⟩ = false ∧ W.frozen? ⟨B, 1, none⟩ = false := by
  simp [World.cell?, World.frozen?, h]
theorem box2_set {W : World} {B : Nat} {t : TypeId} {a b : Value} (a' b' : Value) (h : W.heap[B]? = some (.cells #[a, b] t (0, 0))) : ((W.setCell ⟨B, 0, none⟩ a').setCell ⟨B, 1, none⟩ b').heap[B]? = some (.cells #[a', b'] t (0, 0)) := by
  have h1 := heap_set (i := 0) a' h
  have h2 := heap_set (i := 1) b' h1
  rw [h2]; simp
theorem box2_other {W : World} {B C : Nat} {o : Obj} (a' b' : Value) (h : W.heap[B]? = some o) (hc : B ≠ C) : ((W.setCell ⟨C, 0, none⟩ a').setCell ⟨C, 1, none⟩ b').heap[B]? = some o :=
  box_other b' (box_other a' h hc) hc
theorem below2 {W w : World} {n C : Nat} (a' b' : Value) (h : Below n W w) (hc : n ≤ C) : Below n W ((w.setCell ⟨C, 0, none⟩ a').setCell ⟨C, 1, none⟩ b') :=
  (h.setCell (p := ⟨C, 0, none⟩) hc a').setCell (p := ⟨C, 1, none⟩) hc b'
end Go.Proofs.Ytpgnhnimndagpaa
