/- Three blocks that were just laid. No program. -/
import Derived.Test.YtdgclambplipnaaMore
namespace Go.Proofs.Ytdgclambplipnaa
open Go.RowKit
theorem heap_old (W : World) (o : Obj) {k : Nat} (h : k < W.heap.size) : (W.alloc o).heap[k]? = W.heap[k]? := Below.heap_alloc W o k h
theorem three_0 (W : World) (a b c : Obj) : (((W.alloc a).alloc b).alloc c).heap[W.heap.size]? = some a := by
  rw [heap_old _ _ (by simp; omega), heap_old _ _ (by simp), heap_new]
theorem three_1 (W : World) (a b c : Obj) : (((W.alloc a).alloc b).alloc c).heap[W.heap.size + 1]? = some b := by
  have h := heap_new (W.alloc a) b
  rw [World.size_alloc] at h
  rw [heap_old _ _ (by simp), h]
theorem three_2 (W : World) (a b c : Obj) : (((W.alloc a).alloc b).alloc c).heap[W.heap.size + 2]? = some c := by
  have h := heap_new ((W.alloc a).alloc b) c
  rw [World.size_alloc, World.size_alloc] at h
  exact h

end Go.Proofs.Ytdgclambplipnaa
