/- What a loop over an iterator asks of an invariant; an append inside a fence. No program. -/
import Derived.RangeFuncNested
import Derived.RangeFuncBound
import Derived.RangeFuncCalls
import Derived.RangeFuncLeaves
import Derived.OwnWalkIn
import Derived.Test.YtpjcfepngjpfbaaSlices
import Derived.Test.YtpjcfepngjpfbaaOrdHeld
namespace Go.Proofs.Ytpjcfepngjpfbaa
open Go.RowKit

/-- What the law's steps may turn: a block from B on that holds no cells. -/
def CalmRow (B : Nat) (A : World) (row : Option Nat) : Prop := ∀ r, row = some r → B ≤ r ∧ ∃ o : Obj, A.heap[r]? = some o ∧ o.isCells = false
theorem own_cells {B : Nat} {A C : World} {row : Option Nat} (hg : A.grownBy C row) (hr : CalmRow B A row) {k : Nat} {cs : Array Value} {t : TypeId} {fz : Nat × Nat} (h : A.heap[k]? = some (.cells cs t fz)) : C.heap[k]? = some (.cells cs t fz) := by
  rw [hg.block k (Array.getElem?_eq_some_iff.1 h).1 (fun e => ?_)]
  · exact h
  · obtain ⟨-, o, ho, hc⟩ := hr k e.symm
    rw [h] at ho; cases ho; cases hc
theorem own_SlA {α : Type} {B B₀ : Nat} {A C : World} {row : Option Nat} (hg : A.grownBy C row) (hr : CalmRow B A row) {e : TypeId} {size : Nat} {enc : α → List Value} {v : Value} {l : List α} (h : SlA B₀ A e size enc v l) : SlA B₀ C e size enc v l := by
  refine World.ownsRow.kept h hg ?_
  rcases h.2 with ⟨rfl, _⟩ | ⟨g, cap, cur, rfl, _, hgb, _⟩
  · exact .inl rfl
  · right
    intro e'
    obtain ⟨-, o, ho, hc⟩ := hr g (by simpa [Value.ownBlock] using e'.symm)
    rw [hgb] at ho; cases ho; cases hc
theorem own_below {B n₀ : Nat} {w₀ A C : World} {row : Option Nat} (hg : A.grownBy C row) (hr : CalmRow B A row) (hn : n₀ ≤ w₀.heap.size) (hB : n₀ ≤ B) (h : Below n₀ w₀ A) : Below n₀ w₀ C :=
  h.grown hg (Nat.le_trans hn h.size) (fun k e => Nat.le_trans hB (hr k e).1)
theorem keepsOthers_below {A C : World} (h : Below A.heap.size A C) : KeepsOthers A C := ⟨h.size, fun k o hk _ => by rw [h.block k (Array.getElem?_eq_some_iff.1 hk).1]; exact hk⟩
theorem keepsOthers_setCell {A C : World} (h : KeepsOthers A C) (a : Addr) (v : Value) : KeepsOthers A (C.setCell a v) := h.trans (KeepsOthers.setCell _ _ _)
theorem heap_putObj_cells {W : World} {k l : Nat} {cs : Array Value} {t : TypeId} {fz : Nat × Nat} {o o' : Obj} (h : W.heap[k]? = some (.cells cs t fz)) (hl : W.heap[l]? = some o) (ho : o.isCells = false) : (W.putObj l o').heap[k]? = some (.cells cs t fz) := by
  have hg := grownBy_putObj' W l o'
  exact own_cells (B := 0) hg (fun r e => by cases e; exact ⟨Nat.zero_le _, o, hl, ho⟩) h
theorem slA_putObj {α : Type} {B₀ : Nat} {W : World} {e : TypeId} {size : Nat} {enc : α → List Value} {v : Value} {x : List α} {l : Nat} {o o' : Obj} (h : SlA B₀ W e size enc v x) (hl : W.heap[l]? = some o) (ho : o.isCells = false) : SlA B₀ (W.putObj l o') e size enc v x :=
  own_SlA (B := 0) (grownBy_putObj' W l o') (fun r e => by cases e; exact ⟨Nat.zero_le _, o, hl, ho⟩) h

/-- append of one element that has just been laid in a block of its own, inside a fence. -/
theorem wp_app1In {α : Type} {F : Fence} {n : Nat} {P : Program} {ops : Array Oper} {rest : List Oper} {o : Oper} {a : Act} {Q : Exit → Act → World → Prop} {t e : TypeId} {size bytes : Nat} (hE : Elem P t e size bytes) {enc : α → List Value} (he : ∀ a, (enc a).length = size)
    (hgd : o.guard = none) (s x : Operand) (ho : o.op = .call { callee := .builtin .append, args := #[s, x], argTypes := #[t, t] })
    {B₀ : Nat} {w0 : World} {v : Value} {l : List α} (hs : a.eval s = v) (hS : SlA B₀ w0 e size enc v l) (y : α) {c : Nat} (hx : a.eval x = .slice (some ⟨w0.heap.size, 0, none⟩) 1 c) {cs : Array Value} (hcs : cs.toList = enc y) (h1 : ∀ u ∈ enc y, u.oneCell' = true)
    (hbytes : (l.length + 1) * bytes ≤ 140737488355328) (hbase : B₀ ≤ w0.heap.size)
    (h : ∀ v' w', SlA B₀ w' e size enc v' (l ++ [y]) → (w0.alloc (.cells cs e)).grownBy w' v.ownBlock → Below B₀ w0 w' → wpListIn F n P ops Q rest (a.put o.dst v') w') : wpListIn F n P ops Q (o :: rest) a (w0.alloc (.cells cs e)) := by
  obtain ⟨ht, i, z, hi, hz, hsz, hby, hzs, h0, hb0⟩ := hE
  have hnew : (w0.alloc (.cells cs e)).heap[w0.heap.size]? = some (.cells cs e) := by show (w0.heap.push _)[w0.heap.size]? = _; simp
  refine wpListIn_append_own _ hgd s x t ho B₀ e i z size bytes ht hi hz hsz hby hzs h0 v l.length (l.flatMap enc) hs (World.ownsRow.alloc hS _) ⟨w0.heap.size, 0, none⟩ 1 c (enc y) hx (by rw [he, Nat.one_mul]) ?_ h1 ?_ hbytes (by simp; omega) ?_
  · intro j u hu
    have e1 : (⟨w0.heap.size, 0, none⟩ : Addr).add j = ⟨w0.heap.size, j, none⟩ := by unfold Addr.add; split <;> simp_all
    rw [e1]
    rw [← hcs] at hu
    simp only [World.cell?, hnew]
    simpa using hu
  · have : (l.length + 1) * 1 ≤ (l.length + 1) * bytes := Nat.mul_le_mul_left _ hb0
    simp only [maxLen]; omega
  · intro v' w' hown hg _
    refine h v' w' (SlA.append (l2 := [y]) hown rfl rfl (by simp)) hg ?_
    refine ((Below.refl B₀ w0).alloc hbase _).grown hg (by simp; omega) ?_
    intro k hk
    rcases hS.2 with ⟨rfl, _⟩ | ⟨g, cap, cur, rfl, hb, _⟩
    · simp [Value.ownBlock] at hk
    · simp [Value.ownBlock] at hk; omega
/-- A cells' block of another type lies on behind such an append. -/
theorem app_other {α : Type} {B₀ : Nat} {w0 w' : World} {e t : TypeId} {size : Nat} {enc : α → List Value} {v : Value} {l : List α} {cs cs' : Array Value} {fz : Nat × Nat} {k : Nat} (hS : SlA B₀ w0 e size enc v l) (hg : (w0.alloc (.cells cs e)).grownBy w' v.ownBlock) (h : w0.heap[k]? = some (.cells cs' t fz)) (ht : t ≠ e) : w'.heap[k]? = some (.cells cs' t fz) := by
  have hk := (Array.getElem?_eq_some_iff.1 h).1
  rw [hg.block k (by simp; omega) ?_, Below.heap_alloc _ _ _ hk]
  · exact h
  · rcases hS.2 with ⟨rfl, _⟩ | ⟨g, cap, cur, rfl, _, hgb, _⟩
    · simp [Value.ownBlock]
    · intro e'
      obtain rfl : k = g := by simpa [Value.ownBlock] using e'
      rw [h] at hgb; simp at hgb; exact ht hgb.2.1
/-- What is no cells' block lies on behind such an append. -/
theorem app_keepsOthers {α : Type} {B₀ : Nat} {w0 w' : World} {e : TypeId} {size : Nat} {enc : α → List Value} {v : Value} {l : List α} {cs : Array Value} (hS : SlA B₀ w0 e size enc v l) (hg : (w0.alloc (.cells cs e)).grownBy w' v.ownBlock) : KeepsOthers w0 w' := by
  refine ⟨by have := hg.size; simp at this; omega, fun k o hk ho => ?_⟩
  have hlt := (Array.getElem?_eq_some_iff.1 hk).1
  rw [hg.block k (by simp; omega) ?_, Below.heap_alloc _ _ _ hlt]
  · exact hk
  · rcases hS.2 with ⟨rfl, _⟩ | ⟨g, cap, cur, rfl, _, hgb, _⟩
    · simp [Value.ownBlock]
    · intro e'
      obtain rfl : k = g := by simpa [Value.ownBlock] using e'
      rw [hk] at hgb; cases hgb; cases ho
/-- Q, and no panic. -/
def NP (Q : Exit → Act → World → Prop) : Exit → Act → World → Prop
  | .panic _, _, _ => False
  | e, a, w => Q e a w
theorem NP.normal {Q : Exit → Act → World → Prop} {a : Act} {w : World} (h : Q .normal a w) : NP Q .normal a w := h
/-- A region that draws its order where Q may ask something of the temporaries behind a panic. -/
theorem wpIn_region_anyNP {F : Fence} {n : Nat} {P : Program} {Q : Exit → Act → World → Prop} {id : Nat} {l : List Oper} {a : Act} {w : World} (S : World → Prop) (hm : P.follows .mixedOrders = true) (h : AnyH F n P l.toArray (NP Q) S l.length (Array.replicate l.length false) a w.drew) : (Code.region id l.toArray true).wpIn F n P Q a w :=
  wpIn_mono (wpIn_region_anyH S hm h) fun e _ _ h => by cases e <;> first | exact h | exact h.elim
/-- The same outside every fence. -/
theorem wp_region_anyNP {P : Program} {Q : Exit → Act → World → Prop} {id : Nat} {l : List Oper} {a : Act} {w : World} (S : World → Prop) (hm : P.follows .mixedOrders = true) (h : AnyH Fence.wide 0 P l.toArray (NP Q) S l.length (Array.replicate l.length false) a w.drew) : (Code.region id l.toArray true).wp P Q a w :=
  (wpIn_wide (n := 0)).1 (wpIn_region_anyNP S hm h)
end Go.Proofs.Ytpjcfepngjpfbaa
