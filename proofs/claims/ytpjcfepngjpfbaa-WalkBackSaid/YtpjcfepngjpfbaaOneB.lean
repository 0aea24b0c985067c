/- All blocks but one stand as they stood. No walk. -/
import Derived.Test.YtpjcfepngjpfbaaCom
import Derived.Test.YtpjcfepngjpfbaaAws
set_option linter.unusedVariables false
set_option linter.unusedSimpArgs false
namespace Go.Proofs.Ytpjcfepngjpfbaa
open Go.RowKit Go.Lib
namespace M
def OnB (M g : Nat) (A Y : World) : Prop := ∀ b, b < M → b ≠ g → Y.heap[b]? = A.heap[b]?
theorem OnB.own {M g : Nat} {A Y C : World} {row : Option Nat} (h : OnB M g A Y) (hM : A.heap.size = M) (hg : Y.grownBy C row) (hr : CalmRow M Y row) : OnB M g A C := fun b hb hn => by
  have e := h b hb hn
  have hl : b < Y.heap.size := by
    have h2 : A.heap[b]? = some (A.heap[b]'(by omega)) := Array.getElem?_eq_getElem (by omega)
    rw [h2] at e
    exact (Array.getElem?_eq_some_iff.1 e).1
  rw [hg.block b hl (fun e => by have := (hr b e.symm).1; omega), e]
theorem OnB.below {M g : Nat} {A Y C : World} (h : OnB M g A Y) (b : Below M Y C) : OnB M g A C := fun k hk hn => (b.block k hk).trans (h k hk hn)
theorem OnB.set {M g : Nat} {A Y : World} (h : OnB M g A Y) (v : Value) : OnB M g A (Y.setCell ⟨g, 0, none⟩ v) := fun k hk hn => (Below.heap_setCell _ _ _ _ hn).trans (h k hk hn)
theorem OnB.cell {M g k i : Nat} {A Y : World} (h : OnB M g A Y) (hk : k < M) (hn : k ≠ g) : Y.cell? ⟨k, i, none⟩ = A.cell? ⟨k, i, none⟩ := by
  unfold World.cell?; dsimp only; rw [h k hk hn]
end M
end Go.Proofs.Ytpjcfepngjpfbaa
