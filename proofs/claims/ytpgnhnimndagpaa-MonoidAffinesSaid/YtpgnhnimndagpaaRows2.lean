/- Slices of pairs of numbers. No program. -/
import Derived.Test.YtpgnhnimndagpaaBase
namespace Go.Proofs.Ytpgnhnimndagpaa
open Go.RowKit
/-- A slice of pairs of numbers of kind k, wherever it lies. -/
def RowAt2 (k : IntKind) (W : World) (v : Value) (L : List (Int × Int)) : Prop :=
  ∃ a cap, v = .slice a L.length cap ∧ L.length ≤ cap ∧ cap ≤ maxLen ∧ ∀ (i : Nat) (h : i < L.length), ∃ b, a = some b ∧ W.cell? (b.add (i * 2)) = some (.int k L[i].1) ∧ W.cell? ⟨(b.add (i * 2)).block, (b.add (i * 2)).off + 1, none⟩ = some (.int k L[i].2)
theorem RowAt2.below {k : IntKind} {A C : World} {v : Value} {L : List (Int × Int)} (h : RowAt2 k A v L) (hb : Below A.heap.size A C) : RowAt2 k C v L := by
  obtain ⟨a, cap, rfl, h1, h2, h⟩ := h
  exact ⟨a, cap, rfl, h1, h2, fun i hi => (h i hi).imp fun b hh => ⟨hh.1, cell_below hh.2.1 hb, cell_below hh.2.2 hb⟩⟩
theorem pair_at (b : Addr) (j : Nat) : (b.add ((j + 1) * 2)) = ⟨b.block, b.off + 2 + j * 2, none⟩ := by
  unfold Addr.add
  rw [if_neg (by omega)]
  congr 1; omega
end Go.Proofs.Ytpgnhnimndagpaa
