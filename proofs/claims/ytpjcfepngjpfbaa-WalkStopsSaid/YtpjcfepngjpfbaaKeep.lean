/- What other blocks keep; append of a list to an empty slice, and to a list of the call's own: the runs. No program. -/
import Derived.Test.YtpjcfepngjpfbaaApp
import Derived.ArgAppend
import Derived.Laws.OwnMore
namespace Go.Proofs.Ytpjcfepngjpfbaa
open Go.RowKit
/-- No block of type nt that lay has turned. -/
def KeepT (nt : TypeId) (W W' : World) : Prop := ∀ (b : Nat) (cs : Array Value) (fz : Nat × Nat), W.heap[b]? = some (.cells cs nt fz) → W'.heap[b]? = some (.cells cs nt fz)
theorem KeepT.refl (nt : TypeId) (W : World) : KeepT nt W W := fun _ _ _ h => h
theorem KeepT.trans {nt : TypeId} {A B C : World} (h : KeepT nt A B) (k : KeepT nt B C) : KeepT nt A C := fun b cs fz e => k b cs fz (h b cs fz e)
theorem KeepT.below {nt : TypeId} {A B : World} (h : Below A.heap.size A B) : KeepT nt A B := fun b cs fz e => by
  have hb : b < A.heap.size := (Array.getElem?_eq_some_iff.1 e).1
  rw [h.block b hb]; exact e
theorem KeepT.drew {nt : TypeId} {A B : World} (h : KeepT nt A B) : KeepT nt A B.drew := h
theorem KeepT.setCell {nt : TypeId} {W : World} {a : Addr} {v : Value} {cs : Array Value} {t : TypeId} {fz : Nat × Nat} (h : W.heap[a.block]? = some (.cells cs t fz)) (ht : t ≠ nt) : KeepT nt W (W.setCell a v) := fun b cs' fz' e => by
  have hb : b ≠ a.block := by
    intro eb; subst eb; rw [h] at e; simp at e; exact ht e.2.1
  rw [Below.heap_setCell _ _ _ _ hb]; exact e
theorem SlA.keep {α : Type} {B₀ : Nat} {A B : World} {e : TypeId} {size : Nat} {enc : α → List Value} {v : Value} {l : List α} (h : SlA B₀ A e size enc v l) (hk : KeepT e A B) : SlA B₀ B e size enc v l := by
  refine ⟨h.1, ?_⟩
  rcases h.2 with hn | ⟨g, cap, cur, hv, hb, hg, rest⟩
  · exact .inl hn
  · exact .inr ⟨g, cap, cur, hv, hb, hk _ _ _ hg, rest⟩
theorem below_none {A B : World} (h : A.grownBy B none) : Below A.heap.size A B := (Below.refl _ A).grown h (Nat.le_refl _) (fun k e => by cases e)
/-- What a list of the call's own leaves of other blocks where it grows. -/
theorem keep_own {α : Type} {B₀ : Nat} {w w' : World} {e : TypeId} {size : Nat} {enc : α → List Value} {v : Value} {l : List α} (hS : SlA B₀ w e size enc v l) (hg : w.grownBy w' v.ownBlock) {t : TypeId} (ht : t ≠ e) : KeepT t w w' := fun k cs fz h => by
  rw [hg.block k (Array.getElem?_eq_some_iff.1 h).1 ?_]
  · exact h
  · rcases hS.2 with ⟨rfl, _⟩ | ⟨g, cap, cur, rfl, _, hgb, _⟩
    · simp [Value.ownBlock]
    · intro e'
      obtain rfl : k = g := by simpa [Value.ownBlock] using e'
      rw [h] at hgb; simp at hgb; exact ht hgb.2.1
theorem below_own {α : Type} {B₀ : Nat} {w w' : World} {e : TypeId} {size : Nat} {enc : α → List Value} {v : Value} {l : List α} (hS : SlA B₀ w e size enc v l) (hg : w.grownBy w' v.ownBlock) (hb : B₀ ≤ w.heap.size) : Below B₀ w w' := by
  refine (Below.refl B₀ w).grown hg hb ?_
  intro k hk
  rcases hS.2 with ⟨rfl, _⟩ | ⟨g, cap, cur, rfl, hb, _⟩
  · simp [Value.ownBlock] at hk
  · simp [Value.ownBlock] at hk; omega
/-- append of a list to an empty slice. -/
theorem run_catE {α : Type} {P : Program} {t e : TypeId} {size bytes : Nat} (hE : Elem P t e size bytes) {enc : α → List Value} (he : ∀ a, (enc a).length = size) (ty : TypeId)
    {B₀ B₁ B : Nat} {w : World} {v2 : Value} {l2 : List α} (h0 : SlA B₀ w e size enc (.slice (some ⟨B, 0, none⟩) 0 0) []) (hS2 : SlA B₁ w e size enc v2 l2) (hbytes : l2.length * bytes ≤ 140737488355328) (hbase : B₀ ≤ w.heap.size) :
    ∃ v' w', (Builtin.append_ #[t, t] ty #[.slice (some ⟨B, 0, none⟩) 0 0, v2]).run P w = .ok v' w' ∧ SlA B₀ w' e size enc v' l2 ∧ Below w.heap.size w w' := by
  obtain ⟨ht, i, z, hi, hz, hsz, hby, hzs, hp0, hb0⟩ := hE
  by_cases hl : l2 = []
  · subst hl
    obtain ⟨a, c, rfl⟩ := hS2.len
    refine ⟨_, w, ?_, h0, Below.refl _ _⟩
    cases a <;> simp [Builtin.append_, run_underlying ht, sizeOf, typeInfo, hi, Builtin.lenOf, Builtin.firstCells, storeCells, loadCells, loadCellsFrom]
  · rcases hS2.shape with ⟨-, rfl⟩ | ⟨g, cap, rfl, hc1, hc2⟩
    · exact absurd rfl hl
    · have hlen : 0 < l2.length := List.length_pos_iff.2 hl
      obtain ⟨v', w', hrun, hown, hg⟩ := run_append_arg_grows (P := P) w t ty e i z size bytes ht hi hz hsz hby hzs hp0 ⟨B, 0, none⟩ 0 0 [] (by simp) (fun j u h => by simp at h) ⟨g, 0, none⟩ l2.length cap (l2.flatMap enc) (flatMap_len he l2) (fun j u hu => World.ownsRow.cells hS2 (g := g) rfl j u hu) (by omega) (by
        have : l2.length * 1 ≤ l2.length * bytes := Nat.mul_le_mul_left _ hb0
        simp only [maxLen]; omega) (by rw [Nat.zero_add]; exact hbytes)
      rw [Nat.zero_add, List.nil_append] at hown
      exact ⟨v', w', hrun, SlA.mono (show SlA w.heap.size w' e size enc v' l2 from hown) hbase, below_none hg⟩
/-- append of a list that is not nil to a list of the call's own. -/
theorem run_catO {α : Type} {P : Program} {t e : TypeId} {size bytes : Nat} (hE : Elem P t e size bytes) {enc : α → List Value} (he : ∀ a, (enc a).length = size) (h1 : ∀ y, ∀ u ∈ enc y, u.oneCell' = true) (ty : TypeId)
    {B₀ B₁ g cap : Nat} {w : World} {v : Value} {l l2 : List α} (hS : SlA B₀ w e size enc v l) (hS2 : SlA B₁ w e size enc (.slice (some ⟨g, 0, none⟩) l2.length cap) l2) (hbytes : (l.length + l2.length) * bytes ≤ 140737488355328) (hbase : B₀ ≤ w.heap.size) :
    ∃ v' w', (Builtin.append_ #[t, t] ty #[v, .slice (some ⟨g, 0, none⟩) l2.length cap]).run P w = .ok v' w' ∧ SlA B₀ w' e size enc v' (l ++ l2) ∧ w.grownBy w' v.ownBlock ∧ Below B₀ w w' := by
  obtain ⟨ht, i, z, hi, hz, hsz, hby, hzs, h0, hb0⟩ := hE
  obtain ⟨v', w', hrun, hown, hg, -⟩ := run_append_own (P := P) w B₀ t ty e i z size bytes ht hi hz hsz hby hzs h0 v l.length (l.flatMap enc) hS ⟨g, 0, none⟩ l2.length cap (l2.flatMap enc) (flatMap_len he l2) (fun j u hu => World.ownsRow.cells hS2 (g := g) rfl j u hu) (by
    intro u hu
    obtain ⟨y, -, hy⟩ := List.mem_flatMap.1 hu
    exact h1 y u hy) (by
    have : (l.length + l2.length) * 1 ≤ (l.length + l2.length) * bytes := Nat.mul_le_mul_left _ hb0
    simp only [maxLen]; omega) hbytes hbase
  exact ⟨v', w', hrun, SlA.append (l2 := l2) hown rfl rfl rfl, hg, below_own hS hg hbase⟩
/-- A slice that the text wrote out. -/
theorem SlA.lit {α : Type} {w : World} {e : TypeId} {size : Nat} {enc : α → List Value} (he : ∀ a, (enc a).length = size) {cs : Array Value} {l : List α} (hcs : cs.toList = l.flatMap enc) (hn : l.length ≤ maxLen) :
    SlA w.heap.size (w.alloc (.cells cs e)) e size enc (.slice (some ⟨w.heap.size, 0, none⟩) l.length l.length) l := by
  refine ⟨flatMap_len he l, .inr ⟨w.heap.size, l.length, cs, rfl, Nat.le_refl _, ?_, Nat.le_refl _, hn, ?_, ?_⟩⟩
  · show (w.heap.push _)[w.heap.size]? = _
    simp
  · rw [← flatMap_len he l, ← hcs]; simp
  · rw [hcs, ← flatMap_len he l, List.take_length]
end Go.Proofs.Ytpjcfepngjpfbaa
