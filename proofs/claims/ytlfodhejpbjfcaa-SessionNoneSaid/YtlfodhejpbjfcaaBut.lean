/- Worlds that differ in one block alone. No program. -/
import Derived.Below
import Derived.WalkKit
import Derived.Lib.Hide
namespace Go.Proofs.Ytlfodhejpbjfcaa
open Go.RowKit
/-- Nothing that lay has turned but block C. -/
structure BC (C : Nat) (A B : World) : Prop where
  os : B.os = A.os
  tape : B.tape = A.tape
  output : B.output = A.output
  size : A.heap.size ≤ B.heap.size
  block : ∀ k, k < A.heap.size → k ≠ C → B.heap[k]? = A.heap[k]?
theorem BC.of {C : Nat} {A B : World} (h : Below A.heap.size A B) : BC C A B := ⟨h.os, h.tape, h.output, h.size, fun k hk _ => h.block k hk⟩
theorem BC.refl (C : Nat) (A : World) : BC C A A := .of (Below.refl _ _)
theorem BC.trans {C : Nat} {A B D : World} (h : BC C A B) (k : BC C B D) : BC C A D :=
  ⟨k.os.trans h.os, k.tape.trans h.tape, k.output.trans h.output, Nat.le_trans h.size k.size, fun i hi hc => (k.block i (Nat.lt_of_lt_of_le hi h.size) hc).trans (h.block i hi hc)⟩
theorem BC.set {C : Nat} {A B : World} (h : BC C A B) {p : Addr} (hp : A.heap.size ≤ p.block ∨ p.block = C) (u : Value) : BC C A (B.setCell p u) :=
  ⟨h.os, h.tape, h.output, Nat.le_trans h.size (by simp [World.setCell]), fun k hk hc => (Below.heap_setCell _ _ _ _ (by omega)).trans (h.block k hk hc)⟩
theorem BC.obj {C : Nat} {A B : World} (h : BC C A B) {k : Nat} (hc : k ≠ C) {o : Obj} (ho : A.heap[k]? = some o) : B.heap[k]? = some o := (h.block k (Array.getElem?_eq_some_iff.1 ho).1 hc).trans ho
/-- Where that block holds again what it held, nothing has turned. -/
theorem BC.close {C : Nat} {A B : World} (h : BC C A B) (hc : B.heap[C]? = A.heap[C]?) : Below A.heap.size A B :=
  ⟨h.os, h.tape, h.output, h.size, fun k hk => by
    by_cases e : k = C
    · subst e; exact hc
    · exact h.block k hk e⟩
theorem BC.grown {C : Nat} {A B : World} (h : A.grownBy B (some C)) : BC C A B := ⟨h.os, h.tape, h.output, h.size, fun k hk hne => h.block k hk (fun e => hne (Option.some.inj e))⟩
end Go.Proofs.Ytlfodhejpbjfcaa
