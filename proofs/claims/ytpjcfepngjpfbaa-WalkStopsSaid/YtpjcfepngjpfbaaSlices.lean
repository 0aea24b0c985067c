/- A slice that reads as a list of elements of several cells. No program. -/
import Derived.Below
import Derived.Laws.AppendOwn
namespace Go.Proofs.Ytpjcfepngjpfbaa
open Go.RowKit

/-- The slice v holds the list l, each element in 'size' cells by enc, in a block of its own (from number B₀ on) from its first cell on. -/
def SlA {α : Type} (B₀ : Nat) (W : World) (e : TypeId) (size : Nat) (enc : α → List Value) (v : Value) (l : List α) : Prop :=
  W.ownsRow B₀ e size v l.length (l.flatMap enc)

theorem flatMap_len {α : Type} {enc : α → List Value} {size : Nat} (he : ∀ a, (enc a).length = size) (l : List α) : (l.flatMap enc).length = l.length * size := by
  induction l with
  | nil => simp
  | cons a l ih => simp only [List.flatMap_cons, List.length_append, he, ih, List.length_cons, Nat.add_mul]; omega
theorem flatMap_get {α : Type} {enc : α → List Value} {size : Nat} (he : ∀ a, (enc a).length = size) : ∀ (l : List α) (i j : Nat) (hi : i < l.length), j < size → (l.flatMap enc)[i * size + j]? = (enc l[i])[j]?
  | a :: l, 0, j, _, hj => by
    simp only [List.flatMap_cons, Nat.zero_mul, Nat.zero_add, List.getElem_cons_zero]
    rw [List.getElem?_append_left (by rw [he]; exact hj)]
  | a :: l, i + 1, j, hi, hj => by
    simp only [List.flatMap_cons, List.getElem_cons_succ]
    rw [List.getElem?_append_right (by rw [he, Nat.add_mul]; omega), he]
    rw [show (i + 1) * size + j - size = i * size + j by rw [Nat.add_mul]; omega]
    exact flatMap_get he l i j (by simpa using hi) hj

theorem SlA.nil {α : Type} (B₀ : Nat) (W : World) (e : TypeId) (size : Nat) (enc : α → List Value) : SlA B₀ W e size enc (.slice none 0 0) [] := World.ownsRow_nil W B₀ e size
theorem SlA.mono {α : Type} {B₀ B₁ : Nat} {W : World} {e : TypeId} {size : Nat} {enc : α → List Value} {v : Value} {l : List α} (h : SlA B₁ W e size enc v l) (hb : B₀ ≤ B₁) : SlA B₀ W e size enc v l := by
  refine ⟨h.1, ?_⟩
  rcases h.2 with hn | ⟨g, cap, cur, hv, hg, rest⟩
  · exact .inl hn
  · exact .inr ⟨g, cap, cur, hv, Nat.le_trans hb hg, rest⟩
theorem SlA.below {α : Type} {B₀ : Nat} {A B : World} {e : TypeId} {size : Nat} {enc : α → List Value} {v : Value} {l : List α} (h : SlA B₀ A e size enc v l) (hb : Below A.heap.size A B) : SlA B₀ B e size enc v l :=
  World.ownsRow.kept (row := none) h ⟨hb.os, hb.tape, hb.output, hb.size, fun k hk _ => hb.block k hk⟩ (by cases v.ownBlock <;> simp)
/-- Where a block that is not the slice's own is written. -/
theorem SlA.setCell {α : Type} {B₀ : Nat} {W : World} {e : TypeId} {size : Nat} {enc : α → List Value} {v : Value} {l : List α} (h : SlA B₀ W e size enc v l) {a : Addr} (u : Value) {cs : Array Value} {t : TypeId} {fz : Nat × Nat} (hb : W.heap[a.block]? = some (.cells cs t fz)) (ht : t ≠ e) : SlA B₀ (W.setCell a u) e size enc v l := by
  refine World.ownsRow.kept (row := some a.block) h ⟨rfl, rfl, rfl, by simp [World.setCell], fun k _ hk => Below.heap_setCell _ _ _ k (fun e => hk (by rw [e]))⟩ ?_
  rcases h.2 with ⟨rfl, _⟩ | ⟨g, cap, cur, rfl, _, hgg, _⟩
  · left; rfl
  · right
    intro e'
    obtain rfl : g = a.block := by simpa [Value.ownBlock] using e'
    rw [hgg] at hb; simp at hb; exact ht hb.2.1.symm
theorem SlA.shape {α : Type} {B₀ : Nat} {W : World} {e : TypeId} {size : Nat} {enc : α → List Value} {v : Value} {l : List α} (h : SlA B₀ W e size enc v l) : (v = .slice none 0 0 ∧ l = []) ∨ ∃ g cap, v = .slice (some ⟨g, 0, none⟩) l.length cap ∧ l.length ≤ cap ∧ cap ≤ maxLen := by
  rcases h.2 with ⟨hv, hn⟩ | ⟨g, cap, cur, hv, _, _, h1, h2, _⟩
  · exact .inl ⟨hv, List.eq_nil_of_length_eq_zero hn⟩
  · exact .inr ⟨g, cap, hv, h1, h2⟩
theorem SlA.cell {α : Type} {B₀ : Nat} {W : World} {e : TypeId} {size : Nat} {enc : α → List Value} (he : ∀ a, (enc a).length = size) {g cap n : Nat} {l : List α} (h : SlA B₀ W e size enc (.slice (some ⟨g, 0, none⟩) n cap) l)
    {i : Nat} (hi : i < l.length) {j : Nat} (hj : j < size) : W.cell? ⟨g, i * size + j, none⟩ = (enc l[i])[j]? := by
  have hc := World.ownsRow.cells h (g := g) rfl (i * size + j) ((enc l[i])[j]'(by rw [he]; exact hj)) (by rw [flatMap_get he l i j hi hj]; exact List.getElem?_eq_getElem _)
  rw [List.getElem?_eq_getElem (by rw [he]; exact hj), ← hc]
  congr 1
  unfold Addr.add
  split <;> simp_all
/-- A slice's length in its value. -/
def slLen : Value → Value
  | .slice _ n _ => .int .i64 n
  | _ => .int .i64 0
theorem SlA.len {α : Type} {B₀ : Nat} {W : World} {e : TypeId} {size : Nat} {enc : α → List Value} {v : Value} {l : List α} (h : SlA B₀ W e size enc v l) : ∃ a cap, v = .slice a l.length cap := by
  rcases h.shape with ⟨rfl, rfl⟩ | ⟨g, cap, rfl, _⟩
  · exact ⟨_, _, rfl⟩
  · exact ⟨_, _, rfl⟩
/-- What an append of one list to another leaves. -/
theorem SlA.append {α : Type} {B₀ : Nat} {W' : World} {e : TypeId} {size : Nat} {enc : α → List Value} {v' : Value} {l : List α} {n m : Nat} {xs : List Value} {l2 : List α} (h : W'.ownsRow B₀ e size v' (n + m) (l.flatMap enc ++ xs)) (hn : n = l.length) (hm : m = l2.length) (hx : xs = l2.flatMap enc) :
    SlA B₀ W' e size enc v' (l ++ l2) := by
  subst hn hm hx
  unfold SlA
  rw [List.length_append, List.flatMap_append]
  exact h
theorem below_grown {A B : World} {B₀ : Nat} {row : Option Nat} (hg : A.grownBy B row) (hr : ∀ k, row = some k → B₀ ≤ k) (h0 : B₀ ≤ A.heap.size) : Below B₀ A B :=
  (Below.refl B₀ A).grown hg h0 hr

/-- What the table says of a slice's element type. -/
def Elem (P : Program) (t e : TypeId) (size bytes : Nat) : Prop :=
  P.underlying t = some (.slice e) ∧ ∃ i z, P.info? e = some i ∧ i.zero = some z ∧ i.size = size ∧ i.bytes = bytes ∧ z.cells.size = size ∧ 0 < size ∧ 0 < bytes
theorem elem_of {P : Program} {t e : TypeId} {z : Value} {size bytes : Nat} (ht : P.underlying t = some (.slice e)) (h : (P.info? e).map (fun i => (i.zero, i.size, i.bytes)) = some (some z, size, bytes)) (hz : z.cells.size = size) (h0 : 0 < size) (h1 : 0 < bytes) : Elem P t e size bytes := by
  obtain ⟨i, hi, hzz⟩ := Option.map_eq_some_iff.1 h
  simp only [Prod.mk.injEq] at hzz
  exact ⟨ht, i, z, hi, hzz.1, hzz.2.1, hzz.2.2, hz, h0, h1⟩

/-- append of one element that has just been laid in a block of its own. -/
theorem wp_app1 {α : Type} {P : Program} {ops : Array Oper} {rest : List Oper} {o : Oper} {a : Act} {Q : Exit → Act → World → Prop} {t e : TypeId} {size bytes : Nat} (hE : Elem P t e size bytes) {enc : α → List Value} (he : ∀ a, (enc a).length = size)
    (hgd : o.guard = none) (s x : Operand) (ho : o.op = .call { callee := .builtin .append, args := #[s, x], argTypes := #[t, t] })
    {B₀ : Nat} {w0 : World} {v : Value} {l : List α} (hs : a.eval s = v) (hS : SlA B₀ w0 e size enc v l) (y : α) {c : Nat} (hx : a.eval x = .slice (some ⟨w0.heap.size, 0, none⟩) 1 c) {cs : Array Value} (hcs : cs.toList = enc y) (h1 : ∀ u ∈ enc y, u.oneCell' = true)
    (hbytes : (l.length + 1) * bytes ≤ 140737488355328) (hbase : B₀ ≤ w0.heap.size)
    (h : ∀ v' w', SlA B₀ w' e size enc v' (l ++ [y]) → Below B₀ w0 w' → wpList P ops Q rest (a.put o.dst v') w') : wpList P ops Q (o :: rest) a (w0.alloc (.cells cs e)) := by
  obtain ⟨ht, i, z, hi, hz, hsz, hby, hzs, h0, hb0⟩ := hE
  have hnew : (w0.alloc (.cells cs e)).heap[w0.heap.size]? = some (.cells cs e) := by show (w0.heap.push _)[w0.heap.size]? = _; simp
  refine wpList_append_own _ hgd s x t ho B₀ e i z size bytes ht hi hz hsz hby hzs h0 v l.length (l.flatMap enc) hs (World.ownsRow.alloc hS _) ⟨w0.heap.size, 0, none⟩ 1 c (enc y) hx (by rw [he, Nat.one_mul]) ?_ h1 ?_ hbytes (by simp; omega) ?_
  · intro j u hu
    have e1 : (⟨w0.heap.size, 0, none⟩ : Addr).add j = ⟨w0.heap.size, j, none⟩ := by unfold Addr.add; split <;> simp_all
    rw [e1]
    rw [← hcs] at hu
    simp only [World.cell?, hnew]
    simpa using hu
  · have : (l.length + 1) * 1 ≤ (l.length + 1) * bytes := Nat.mul_le_mul_left _ hb0
    simp only [maxLen]; omega
  · intro v' w' hown hg _
    refine h v' w' (SlA.append (l2 := [y]) hown rfl rfl (by simp)) ?_
    refine ((Below.refl B₀ w0).alloc hbase _).grown hg (by simp; omega) ?_
    intro k hk
    rcases hS.2 with ⟨rfl, _⟩ | ⟨g, cap, cur, rfl, hb, _⟩
    · simp [Value.ownBlock] at hk
    · simp [Value.ownBlock] at hk; omega
end Go.Proofs.Ytpjcfepngjpfbaa
