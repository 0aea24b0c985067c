/- Rows of one-cell elements that are written cell by cell. No program. -/
import Derived.Test.YtpgnhnimndagpaaBase
import Derived.Test.YtpgnhnimndagpaaMake
namespace Go.Proofs.Ytpgnhnimndagpaa
open Go.RowKit

theorem heap_set {W : World} {g : Nat} {cs : Array Value} {t : TypeId} {i : Nat} (v : Value) (h : W.heap[g]? = some (.cells cs t (0, 0))) : (W.setCell ⟨g, i, none⟩ v).heap[g]? = some (.cells (cs.setIfInBounds i v) t (0, 0)) := by
  obtain ⟨hlt, hk⟩ := Array.getElem?_eq_some_iff.1 h
  show (W.heap.modify g _)[g]? = _
  rw [Array.getElem?_eq_getElem (by rw [Array.size_modify]; exact hlt), Array.getElem_modify_self, hk]
  rfl

/-- Block g is a row of n elements; element i is F i where D holds. -/
def Arr {α : Type} (ev : α → Value) (t : TypeId) (w : World) (g n : Nat) (D : Nat → Prop) (F : Nat → α) : Prop :=
  ∃ cs : Array Value, w.heap[g]? = some (.cells cs t (0, 0)) ∧ cs.size = n ∧ ∀ i, i < n → D i → cs[i]? = some (ev (F i))
section
variable {α : Type} {ev : α → Value} {t : TypeId} {w : World} {g n : Nat} {D : Nat → Prop} {F : Nat → α}
theorem Arr.lt (h : Arr ev t w g n D F) : g < w.heap.size := by obtain ⟨cs, h, -⟩ := h; exact (Array.getElem?_eq_some_iff.1 h).1
theorem Arr.cell (h : Arr ev t w g n D F) {i : Nat} (hi : i < n) (hd : D i) : w.cell? ⟨g, i, none⟩ = some (ev (F i)) := by
  obtain ⟨cs, h, -, hc⟩ := h
  simp [World.cell?, h, hc i hi hd]
theorem Arr.held (h : Arr ev t w g n D F) {i : Nat} (hi : i < n) : ∃ u, w.cell? ⟨g, i, none⟩ = some u := by
  obtain ⟨cs, h, hs, -⟩ := h
  exact ⟨cs[i]'(by omega), by simp [World.cell?, h, hs, hi]⟩
theorem Arr.free (h : Arr ev t w g n D F) (i : Nat) : w.frozen? ⟨g, i, none⟩ = false := by
  obtain ⟨cs, h, -⟩ := h
  simp [World.frozen?, h]
theorem Arr.below {w' : World} (h : Arr ev t w g n D F) (hb : Below w.heap.size w w') : Arr ev t w' g n D F := by
  obtain ⟨cs, h, r⟩ := h
  exact ⟨cs, box_below hb h, r⟩
theorem Arr.set (h : Arr ev t w g n D F) {i : Nat} {v : Value} (hv : v = ev (F i)) {D' : Nat → Prop} (hd : ∀ k, D' k → k ≠ i → D k) : Arr ev t (w.setCell ⟨g, i, none⟩ v) g n D' F := by
  subst hv
  obtain ⟨cs, h, hs, hc⟩ := h
  refine ⟨_, heap_set _ h, by simp [hs], fun k hk hdk => ?_⟩
  by_cases e : i = k
  · subst e; rw [Array.getElem?_setIfInBounds_self_of_lt (by omega)]
  · rw [Array.getElem?_setIfInBounds_ne e]; exact hc k hk (hd k hdk (fun x => e x.symm))
theorem Arr.setAny (h : Arr ev t w g n D F) {i : Nat} (v : Value) {D' : Nat → Prop} (hd : ∀ k, D' k → k ≠ i ∧ D k) : Arr ev t (w.setCell ⟨g, i, none⟩ v) g n D' F := by
  obtain ⟨cs, h, hs, hc⟩ := h
  refine ⟨_, heap_set _ h, by simp [hs], fun k hk hdk => ?_⟩
  rw [Array.getElem?_setIfInBounds_ne (fun e => (hd k hdk).1 e.symm)]
  exact hc k hk (hd k hdk).2
theorem Arr.other (h : Arr ev t w g n D F) {a : Addr} (v : Value) (ha : g ≠ a.block) : Arr ev t (w.setCell a v) g n D F := by
  obtain ⟨cs, h, r⟩ := h
  refine ⟨cs, ?_, r⟩
  rw [Below.heap_setCell]
  · exact h
  · exact ha
theorem Arr.made (w : World) (z : Value) (n : Nat) (t : TypeId) (ev : α → Value) (F : Nat → α) : Arr ev t (w.alloc (.cells (madeCells #[z] n) t)) w.heap.size n (fun _ => False) F :=
  ⟨_, heap_new w _, size_madeCells _ _, fun _ _ h => h.elim⟩
theorem Arr.dom (h : Arr ev t w g n D F) {D' : Nat → Prop} (hd : ∀ i, i < n → D' i → D i) : Arr ev t w g n D' F := by
  obtain ⟨cs, h1, h2, h3⟩ := h
  exact ⟨cs, h1, h2, fun i hi hD => h3 i hi (hd i hi hD)⟩
theorem Arr.row (h : Arr ev t w g n D F) (hd : ∀ i, i < n → D i) (hn : n ≤ maxLen) : RowAt ev w (.slice (some ⟨g, 0, none⟩) n n) ((List.range n).map F) := by
  refine ⟨some ⟨g, 0, none⟩, n, by simp, by simp, hn, fun i hi => ⟨_, rfl, ?_⟩⟩
  have hi' : i < n := by simpa using hi
  have e : (⟨g, 0, none⟩ : Addr).add i = ⟨g, i, none⟩ := by unfold Addr.add; split <;> simp_all
  rw [e, h.cell hi' (hd i hi')]
  simp
end
theorem box_other {W : World} {B : Nat} {o : Obj} {a : Addr} (v : Value) (h : W.heap[B]? = some o) (ha : B ≠ a.block) : (W.setCell a v).heap[B]? = some o := by
  rw [Below.heap_setCell]
  · exact h
  · exact ha
end Go.Proofs.Ytpgnhnimndagpaa
