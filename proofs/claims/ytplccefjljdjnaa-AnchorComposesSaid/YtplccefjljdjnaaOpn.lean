/- An argument that is a slice of one-cell elements, opened. -/
import Derived.Test.YtplccefjljdjnaaCom
import Derived.Deep.Slices
import Derived.OpenShut
import Derived.ChangeMaps5
import Derived.Carry
set_option linter.unusedVariables false
set_option linter.unusedSimpArgs false
namespace Go.Proofs.Ytplccefjljdjnaa
open Go.RowKit Go.ChangeShapes Go.WideShapes Go.Deep Go.OpenShut

/-- How many elements a slice's reading has. -/
def readLen {H : Type} : DataW H → Nat
  | .slice el _ => el.length
  | _ => 0
theorem rows_open_len {H : Type} {enc : TypeId × Value → H} {P : Program} {W : World} {base : Nat} {sp : Nat → Bool} {hd : Bool} {α : Type} (ev : α → Value) (ok : α → Prop) [Inhabited α] {t e : TypeId} (ht : P.underlying t = some (.slice e)) (hc : P.cellsOf e = 1)
    (hel : ∀ n v x, DataW.trod enc P W base sp hd n e [v] = some x → ∃ a, ok a ∧ v = ev a) {a0 : Option Addr} {len cap : Nat} {d : DataW H} {p : List MemPlace} (h : DataW.Trod enc P W base sp hd t (.slice a0 len cap) d p) :
    ∃ L, RowAt ev W (.slice a0 len cap) L ∧ (∀ a ∈ L, ok a) ∧ L.length ≤ readLen d := by
  obtain ⟨fuel, hf⟩ := h
  rcases Deep.open_slice1 ht hc hf with ⟨e, -⟩ | ⟨a, len', cap', m, n, V, D, Pl, e, -, hl, hm, hmm, hx, hi⟩
  · simp [Value.cells] at e
    obtain ⟨rfl, rfl, rfl⟩ := e
    exact ⟨[], ⟨none, 0, rfl, by simp, by unfold maxLen; omega, fun i h => by cases h⟩, (fun a h => by cases h), by simp⟩
  · simp [Value.cells] at e
    obtain ⟨rfl, rfl, rfl⟩ := e
    have hlm : len ≤ m := by rw [hmm]; split <;> omega
    have hall : ∀ i, i < len → ∃ x : α, ok x ∧ W.cell? (a.add i) = some (ev x) := by
      intro i hil
      obtain ⟨h1, h2⟩ := hi i (by omega)
      obtain ⟨x, hx, e⟩ := hel _ _ _ h2
      exact ⟨x, hx, by rw [h1, e]⟩
    obtain ⟨f, hf⟩ := choose_lt hall
    simp only [Prod.mk.injEq] at hx
    refine ⟨(List.range len).map f, ⟨some a, cap, by simp, by simpa using hl, hm, fun i hil => ⟨a, rfl, ?_⟩⟩, ?_, by rw [hx.1]; simp [readLen]⟩
    · have hil' : i < len := by simpa using hil
      simp only [List.getElem_map, List.getElem_range]
      exact (hf i hil').2
    · intro x hx
      obtain ⟨i, hil, rfl⟩ := List.mem_map.1 hx
      exact (hf i (List.mem_range.1 hil)).1
theorem rows_open {H : Type} {enc : TypeId × Value → H} {P : Program} {W : World} {base : Nat} {sp : Nat → Bool} {hd : Bool} {α : Type} (ev : α → Value) (ok : α → Prop) [Inhabited α] {t e : TypeId} (ht : P.underlying t = some (.slice e)) (hc : P.cellsOf e = 1)
    (hel : ∀ n v x, DataW.trod enc P W base sp hd n e [v] = some x → ∃ a, ok a ∧ v = ev a) {a0 : Option Addr} {len cap : Nat} {d : DataW H} {p : List MemPlace} (h : DataW.Trod enc P W base sp hd t (.slice a0 len cap) d p) :
    ∃ L, RowAt ev W (.slice a0 len cap) L ∧ ∀ a ∈ L, ok a := by
  obtain ⟨L, h1, h2, -⟩ := rows_open_len ev ok ht hc hel h
  exact ⟨L, h1, h2⟩
end Go.Proofs.Ytplccefjljdjnaa
