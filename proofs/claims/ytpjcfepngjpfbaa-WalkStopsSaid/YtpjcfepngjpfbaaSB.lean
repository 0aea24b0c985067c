/- Blocks that stand, as a list; a store through the law's own steps. No walk. -/
import Derived.Test.YtpjcfepngjpfbaaLetIt
import Derived.Test.YtpjcfepngjpfbaaOwn
namespace Go.Proofs.Ytpjcfepngjpfbaa
open Go.RowKit Go.Lib
/-- These blocks hold these cells. -/
def SB (l : List (Nat × Array Value × TypeId)) (Y : World) : Prop := ∀ p ∈ l, Y.heap[p.1]? = some (.cells p.2.1 p.2.2 (0, 0))
theorem SB.own {l : List (Nat × Array Value × TypeId)} {D : Nat} {A C : World} {row : Option Nat} (h : SB l A) (hg : A.grownBy C row) (hr : CalmRow D A row) : SB l C := fun p hp => own_cells hg hr (h p hp)
theorem SB.kpl {l : List (Nat × Array Value × TypeId)} {ts : List TypeId} {n : Nat} {A C : World} (h : SB l A) (k : KpL ts n A C) (ht : ∀ p ∈ l, p.2.2 ∉ ts) : SB l C := fun p hp => k.cells _ (ht p hp) _ _ _ (h p hp)
theorem SB.below {l : List (Nat × Array Value × TypeId)} {A C : World} (h : SB l A) (hb : Below A.heap.size A C) : SB l C := fun p hp => below_block hb (h p hp)
theorem SB.set {l : List (Nat × Array Value × TypeId)} {A : World} {g i : Nat} (h : SB l A) (v : Value) (ha : ∀ p ∈ l, p.1 ≠ g) : SB l (A.setCell ⟨g, i, none⟩ v) := fun p hp => M.set_other (ha p hp) (h p hp)
theorem SB.cell {l : List (Nat × Array Value × TypeId)} {A : World} (h : SB l A) {g : Nat} {cs : Array Value} {t : TypeId} (hm : (g, cs, t) ∈ l) (i : Nat) : A.cell? ⟨g, i, none⟩ = cs[i]? ∧ A.frozen? ⟨g, i, none⟩ = false := by
  have := h _ hm
  exact ⟨by simp [World.cell?, this], by simp [World.frozen?, this]⟩
namespace M
theorem StB.own {D n0 M B most : Nat} {A C : World} {E : List En} {row : Option Nat} (hs : StB n0 M A B most E) (hg : A.grownBy C row) (hr : CalmRow D A row) (hM : M ≤ D) : StB n0 M C B most E := by
  obtain ⟨lv, mb, k1, k2, k3, k4, k5, k6⟩ := hs
  refine ⟨lv, mb, own_cells hg hr k1, own_SlA hg hr k2, ?_, k4, k5, k6⟩
  obtain ⟨es, c, h5, h6⟩ := k3
  refine ⟨es, c, ?_, h6⟩
  rw [hg.block mb (Array.getElem?_eq_some_iff.1 h5).1 (fun e => ?_)]
  · exact h5
  · have := (hr mb e.symm).1; omega
end M
end Go.Proofs.Ytpjcfepngjpfbaa
