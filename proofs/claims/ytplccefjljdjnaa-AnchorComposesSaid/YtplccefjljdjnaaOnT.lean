/- What a step that turns cells of some types alone leaves standing. No program. -/
import Derived.Test.YtplccefjljdjnaaCom
import Derived.Test.YtplccefjljdjnaaAppF
set_option linter.unusedVariables false
set_option linter.unusedSimpArgs false
namespace Go.Proofs.Ytplccefjljdjnaa
open Go.RowKit
/-- What lay has not turned, but for cells of the types ts. -/
structure OnT (ts : List TypeId) (A B : World) : Prop where
  os : B.os = A.os
  tape : B.tape = A.tape
  output : B.output = A.output
  size : A.heap.size ≤ B.heap.size
  block : ∀ (k : Nat) (o : Obj), A.heap[k]? = some o → (∀ cs t fz, o = .cells cs t fz → t ∉ ts) → B.heap[k]? = some o
theorem OnT.of {ts : List TypeId} {A B : World} (h : Below A.heap.size A B) : OnT ts A B := ⟨h.os, h.tape, h.output, h.size, fun k o e _ => by rw [h.block k (Array.getElem?_eq_some_iff.1 e).1]; exact e⟩
theorem OnT.refl (ts : List TypeId) (A : World) : OnT ts A A := .of (Below.refl _ _)
theorem OnT.trans {ts : List TypeId} {A B C : World} (h : OnT ts A B) (k : OnT ts B C) : OnT ts A C :=
  ⟨k.os.trans h.os, k.tape.trans h.tape, k.output.trans h.output, Nat.le_trans h.size k.size, fun i o e hn => k.block i o (h.block i o e hn) hn⟩
theorem OnT.cells {ts : List TypeId} {A B : World} (h : OnT ts A B) {k : Nat} {cs : Array Value} {t : TypeId} {fz : Nat × Nat} (e : A.heap[k]? = some (.cells cs t fz)) (ht : t ∉ ts) : B.heap[k]? = some (.cells cs t fz) := h.block k _ e (fun cs' t' fz' e' => by cases e'; exact ht)
theorem OnT.mono {ts ts' : List TypeId} {A B : World} (h : OnT ts A B) (hs : ∀ t ∈ ts, t ∈ ts') : OnT ts' A B :=
  ⟨h.os, h.tape, h.output, h.size, fun k o e hn => h.block k o e (fun cs t fz e' ht => hn cs t fz e' (hs t ht))⟩
theorem OnT.set {ts : List TypeId} {A : World} {a : Addr} {cs : Array Value} {t : TypeId} {fz : Nat × Nat} (e : A.heap[a.block]? = some (.cells cs t fz)) (ht : t ∈ ts) (v : Value) : OnT ts A (A.setCell a v) := by
  refine ⟨rfl, rfl, rfl, by simp [World.setCell], fun k o ho hn => ?_⟩
  rw [Below.heap_setCell _ _ _ k (fun e' => ?_)]
  · exact ho
  · subst e'
    rw [e] at ho; cases ho
    exact hn _ _ _ rfl ht
theorem OnT.own {α : Type} {ts : List TypeId} {B₀ : Nat} {w0 w w' : World} {e : TypeId} {size : Nat} {enc : α → List Value} {v : Value} {l : List α} (hS : SlA B₀ w0 e size enc v l) (h0 : Below w0.heap.size w0 w) (hg : w.grownBy w' v.ownBlock) (he : e ∈ ts) : OnT ts w0 w' := by
  refine ⟨hg.os.trans h0.os, hg.tape.trans h0.tape, hg.output.trans h0.output, Nat.le_trans h0.size hg.size, fun k o ho hn => ?_⟩
  have hk := (Array.getElem?_eq_some_iff.1 ho).1
  rw [hg.block k (Nat.lt_of_lt_of_le hk h0.size) ?_, h0.block k hk]
  · exact ho
  · intro e'
    rcases hS.2 with ⟨rfl, _⟩ | ⟨g, cap, cur, rfl, _, hgg, _⟩
    · cases e'
    · obtain rfl : k = g := by simpa [Value.ownBlock] using e'
      rw [hgg] at ho; cases ho
      exact hn _ _ _ rfl he
end Go.Proofs.Ytplccefjljdjnaa
