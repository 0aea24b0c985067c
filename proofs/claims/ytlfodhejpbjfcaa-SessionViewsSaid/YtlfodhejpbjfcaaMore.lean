/- More on plain trees. No program. -/
import Derived.Test.YtlfodhejpbjfcaaPlain
import Derived.Deep.Draws
namespace Go.Proofs.Ytlfodhejpbjfcaa
open Go.RowKit
variable {κ ν : Type}

theorem Below.drewN' (B : Nat) (W : World) (n : Nat) : Below B W (W.drewN n) := by
  induction n with
  | zero => exact Below.refl _ _
  | succ n ih => exact ih.trans (Below.drew (Below.refl _ _))

theorem box_cell {W : World} {B : Nat} {t : TypeId} {v : Value} (h : W.heap[B]? = some (.cells #[v] t (0, 0))) : W.cell? ⟨B, 0, none⟩ = some v := by simp [World.cell?, h]
theorem box_frozen {W : World} {B : Nat} {t : TypeId} {v : Value} (h : W.heap[B]? = some (.cells #[v] t (0, 0))) : W.frozen? ⟨B, 0, none⟩ = false := by simp [World.frozen?, h]
theorem box_set {W : World} {B : Nat} {t : TypeId} {v : Value} (v' : Value) (h : W.heap[B]? = some (.cells #[v] t (0, 0))) : (W.setCell ⟨B, 0, none⟩ v').heap[B]? = some (.cells #[v'] t (0, 0)) := by
  obtain ⟨hlt, hk⟩ := Array.getElem?_eq_some_iff.1 h
  show (W.heap.modify B _)[B]? = _
  rw [Array.getElem?_eq_getElem (by rw [Array.size_modify]; exact hlt), Array.getElem_modify_self, hk]
  rfl
theorem box_below {A B : World} {b : Nat} {o : Obj} (hB : Below A.heap.size A B) (h : A.heap[b]? = some o) : B.heap[b]? = some o := (hB.block b (Array.getElem?_eq_some_iff.1 h).1).trans h

/-- The size that a node's own cell holds. -/
def szAt (W : World) : Value → Nat
  | .pointer (some a) => match W.cell? ⟨a.block, 5, none⟩ with | some (.int _ n) => n.toNat | _ => 0
  | _ => 0
theorem IsT.szAt {ek : κ → Value} {ev : ν → Value} {nt : TypeId} {W : World} {p : Option Addr} {T : Tr κ ν} (h : IsT ek ev nt W p T) : szAt W (.pointer p) = T.sz.toNat := by
  cases T with
  | nil => obtain rfl : p = none := h; rfl
  | node l k v r =>
    obtain ⟨b, pl, pr, rfl, hb, -, -⟩ := h
    obtain ⟨-, -, -, -, -, h5⟩ := node_cells hb
    show (match W.cell? ⟨b, 5, none⟩ with | some (.int _ n) => n.toNat | _ => 0) = _
    rw [h5]; rfl
theorem szAt_drewN (W : World) (n : Nat) (v : Value) : szAt (W.drewN n) v = szAt W v := by
  unfold szAt; split <;> simp
theorem Tr.sz_pos {l : Tr κ ν} {k : κ} {v : ν} {r : Tr κ ν} : l.sz < (Tr.node l k v r).sz ∧ r.sz < (Tr.node l k v r).sz ∧ 0 < (Tr.node l k v r).sz := by
  have := l.sz_nonneg; have := r.sz_nonneg; simp only [Tr.sz]; omega


end Go.Proofs.Ytlfodhejpbjfcaa
