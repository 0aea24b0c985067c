/- The marks that iterators leave in a frame (as in pmap/XFroms). No program. -/
import Derived.Test.YtpjcfepngjpfbaaRangeT
import Derived.RangeFuncLeaves
import Derived.Test.YtpjcfepngjpfbaaOrdHeld
namespace Go.Proofs.Ytpjcfepngjpfbaa
open Go.RowKit Go.Lib
/-- The marks that iterators have left, the youngest first. -/
def Marks (n : Nat) (w : World) (ds : List Deferred) : Prop := ∃ Ds : List Nat, ds = Ds.map (fun D => { target := .collected D, args := #[] }) ∧ Ds.Pairwise (· > ·) ∧ ∀ D ∈ Ds, n ≤ D ∧ w.heap[D]? = some (.deferred (some []))
theorem Marks.nil (n : Nat) (w : World) : Marks n w [] := ⟨[], rfl, List.Pairwise.nil, fun _ h => by cases h⟩
theorem Marks.below {n : Nat} {A C : World} {ds : List Deferred} (h : Marks n A ds) (hb : Below A.heap.size A C) : Marks n C ds := by
  obtain ⟨Ds, h1, h2, h3⟩ := h
  exact ⟨Ds, h1, h2, fun D hD => ⟨(h3 D hD).1, (hb.block D (Array.getElem?_eq_some_iff.1 (h3 D hD).2).1).trans (h3 D hD).2⟩⟩
theorem Marks.keep {n : Nat} {A C : World} {ds : List Deferred} (h : Marks n A ds) (hb : KeepsOthers A C) : Marks n C ds := by
  obtain ⟨Ds, h1, h2, h3⟩ := h
  exact ⟨Ds, h1, h2, fun D hD => ⟨(h3 D hD).1, hb.same D _ (h3 D hD).2 rfl⟩⟩
theorem Marks.lt {n : Nat} {A : World} {ds : List Deferred} (h : Marks n A ds) {D : Nat} (hD : { target := .collected D, args := #[] } ∈ ds) : D < A.heap.size := by
  obtain ⟨Ds, rfl, h2, h3⟩ := h
  obtain ⟨D', hD', e⟩ := List.mem_map.1 hD
  simp only [Deferred.mk.injEq, Target.collected.injEq, and_true] at e
  subst e
  exact (Array.getElem?_eq_some_iff.1 (h3 _ hD').2).1
theorem Marks.cons {n : Nat} {A : World} {ds : List Deferred} (h : Marks n A ds) {D : Nat} (hlt : ∀ D', { target := .collected D', args := #[] } ∈ ds → D' < D) (hn : n ≤ D) (hD : A.heap[D]? = some (.deferred (some []))) : Marks n A ({ target := .collected D, args := #[] } :: ds) := by
  obtain ⟨Ds, rfl, h2, h3⟩ := h
  refine ⟨D :: Ds, rfl, List.Pairwise.cons (fun D' h' => hlt D' (List.mem_map.2 ⟨D', h', rfl⟩)) h2, fun x hx => ?_⟩
  rcases List.mem_cons.1 hx with rfl | hx
  · exact ⟨hn, hD⟩
  · exact h3 x hx
theorem Marks.leaves {n : Nat} {F : Fence} {d : Nat} {P : Program} {fn : Func} {tmps : Array Value} {R : Ending → World → Prop} {w : World} {ds : List Deferred} (h : Marks n w ds) (hn : n ≤ w.heap.size) (hf : ∀ w', Below n w w' → LeavesIn F d P fn tmps R [] .returning w') : LeavesInM F d P fn tmps R ds .returning w := by
  obtain ⟨Ds, rfl, h2, h3⟩ := h
  induction Ds generalizing w with
  | nil => exact hf w (Below.refl _ _)
  | cons D Ds ih =>
    obtain ⟨hD, hk⟩ := h3 D (List.mem_cons_self ..)
    have hb : Below n w (w.putObj D (.deferred none)) := (Below.refl n w).grown (grownBy_putObj' w D (.deferred none)) hn (fun k e => by cases e; exact hD)
    refine ⟨by simp, .inl ⟨D, _, rfl, run_takeDeferred hk, ?_⟩⟩
    refine ih (Nat.le_trans hn hb.size) (fun w' hb' => hf w' (hb.trans hb')) (List.Pairwise.of_cons h2) fun x hx => ⟨(h3 x (List.mem_cons_of_mem _ hx)).1, ?_⟩
    have hne : x ≠ D := by have := (List.pairwise_cons.1 h2).1 x hx; omega
    exact ((grownBy_putObj' w D (.deferred none)).block x (Array.getElem?_eq_some_iff.1 (h3 x (List.mem_cons_of_mem _ hx)).2).1 (fun e => hne (by cases e; rfl))).trans (h3 x (List.mem_cons_of_mem _ hx)).2

end Go.Proofs.Ytpjcfepngjpfbaa
