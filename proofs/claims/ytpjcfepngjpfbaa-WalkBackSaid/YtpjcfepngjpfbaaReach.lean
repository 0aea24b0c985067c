/- How long a slice may be that was read before the call. No program. -/
import Derived.Deep.Slices
import Derived.SizedLaws
import Derived.ChangeMaps5
import Derived.Carry
set_option linter.unusedVariables false
set_option linter.unusedSimpArgs false
namespace Go.Proofs.Ytpjcfepngjpfbaa
open Go.RowKit Go.ChangeShapes Go.WideShapes Go.Deep
theorem len_reach {H : Type} {enc : TypeId × Value → H} {P : Program} {W : World} {base : Nat} {sp : Nat → Bool} {hd : Bool} {t e : TypeId} (ht : P.underlying t = some (.slice e)) {a0 : Option Addr} {len cap : Nat} {d : DataW H} {p : List MemPlace} (h : DataW.Trod enc P W base sp hd t (.slice a0 len cap) d p) (hw : ∀ n ∈ d.weights P t, n ≤ reachBytes) : len * P.bytesOf e ≤ reachBytes := by
  obtain ⟨fuel, hf⟩ := h
  rcases open_slice ht hf with ⟨ee, -⟩ | ⟨a, len', cap', m, n, D, Pl, ee, -, hl, hm, hmm, hx, hi⟩
  · simp [Value.cells] at ee
    obtain ⟨-, rfl, -⟩ := ee
    simp
  · simp [Value.cells] at ee
    obtain ⟨rfl, rfl, rfl⟩ := ee
    simp only [Prod.mk.injEq] at hx
    have h1 := hw ((len + (m - len)) * P.bytesOf e) (by rw [hx.1]; simp only [DataW.weights, ht]; simp)
    exact Nat.le_trans (Nat.mul_le_mul_right _ (Nat.le_add_right _ _)) h1
theorem weights_at {H : Type} {P : Program} {ts : List TypeId} {ds : List (DataW H)} (h : (DataW.weightsEach P ts ds).all (· ≤ reachBytes) = true) {j : Nat} {t : TypeId} {d : DataW H} (ht : ts[j]? = some t) (hd : ds[j]? = some d) : ∀ n ∈ d.weights P t, n ≤ reachBytes := fun n hn => by
  have := List.all_eq_true.1 h _ (DataW.weights_mem_each ht hd n hn)
  simpa using this
end Go.Proofs.Ytpjcfepngjpfbaa
