/- A slice that reads as a list of elements of several cells. No program.
A region that draws its order, inside a fence: what gives its value in every world of S is taken first; S is shown behind each operation that is carried out. After the library's Orders, OrdersHeld and OrdersIn, put together.
What a loop over an iterator asks of an invariant; an append inside a fence. No program.
The rest of a drawn region whose operations wait one for the other: a plain list. No program.
append of one element that has just been laid in a block of its own: the run. No program.
What other blocks keep; append of a list to an empty slice, and to a list of the call's own: the runs. No program.
Worlds, boxes, rows that are only read. No program.
What a row asks of a call that leaves all that lay as it lay.
make with a length that the walk computed; append with the whole frame. No program.
append, of which the run is known. No program.
Go maps keyed by strings, as association lists. No program.
Operations of a drawn region that may come up in several orders. No program.
Go maps keyed by integers, as association lists. No program. -/
import Derived.Below
import Derived.Laws.AppendOwn
import Derived.OrdersHeld
import Derived.OrdersIn
import Derived.RegionTactic
import Derived.Laws.World
import Derived.RangeFuncNested
import Derived.RangeFuncBound
import Derived.RangeFuncCalls
import Derived.RangeFuncLeaves
import Derived.OwnWalkIn
import Derived.TacticsIn
import Derived.ArgAppend
import Derived.Laws.OwnMore
import Derived.WalkKit
import Derived.Lib.Hide
import Derived.ProofKit
import Derived.Deep.OwnRows
import Derived.OwnWalk
import Derived.Maps.Keyed
import Derived.Maps.RangeRun
import Derived.Maps.Own
import Derived.StringKeys
set_option linter.unusedVariables false
set_option linter.unusedSimpArgs false
namespace Go.Proofs.Ytplccefjljdjnaa
open Go.RowKit

/-- The slice v holds the list l, each element in 'size' cells by enc, in a block of its own (from number B₀ on) from its first cell on. -/
def SlA {α : Type} (B₀ : Nat) (W : World) (e : TypeId) (size : Nat) (enc : α → List Value) (v : Value) (l : List α) : Prop :=
  W.ownsRow B₀ e size v l.length (l.flatMap enc)

theorem flatMap_len {α : Type} {enc : α → List Value} {size : Nat} (he : ∀ a, (enc a).length = size) (l : List α) : (l.flatMap enc).length = l.length * size := by
  induction l with
  | nil => simp
  | cons a l ih => simp only [List.flatMap_cons, List.length_append, he, ih, List.length_cons, Nat.add_mul]; omega
theorem flatMap_get {α : Type} {enc : α → List Value} {size : Nat} (he : ∀ a, (enc a).length = size) : ∀ (l : List α) (i j : Nat) (hi : i < l.length), j < size → (l.flatMap enc)[i * size + j]? = (enc l[i])[j]?
  | a :: l, 0, j, _, hj => by
    simp only [List.flatMap_cons, Nat.zero_mul, Nat.zero_add, List.getElem_cons_zero]
    rw [List.getElem?_append_left (by rw [he]; exact hj)]
  | a :: l, i + 1, j, hi, hj => by
    simp only [List.flatMap_cons, List.getElem_cons_succ]
    rw [List.getElem?_append_right (by rw [he, Nat.add_mul]; omega), he]
    rw [show (i + 1) * size + j - size = i * size + j by rw [Nat.add_mul]; omega]
    exact flatMap_get he l i j (by simpa using hi) hj

theorem SlA.nil {α : Type} (B₀ : Nat) (W : World) (e : TypeId) (size : Nat) (enc : α → List Value) : SlA B₀ W e size enc (.slice none 0 0) [] := World.ownsRow_nil W B₀ e size
theorem SlA.mono {α : Type} {B₀ B₁ : Nat} {W : World} {e : TypeId} {size : Nat} {enc : α → List Value} {v : Value} {l : List α} (h : SlA B₁ W e size enc v l) (hb : B₀ ≤ B₁) : SlA B₀ W e size enc v l := by
  refine ⟨h.1, ?_⟩
  rcases h.2 with hn | ⟨g, cap, cur, hv, hg, rest⟩
  · exact .inl hn
  · exact .inr ⟨g, cap, cur, hv, Nat.le_trans hb hg, rest⟩
theorem SlA.below {α : Type} {B₀ : Nat} {A B : World} {e : TypeId} {size : Nat} {enc : α → List Value} {v : Value} {l : List α} (h : SlA B₀ A e size enc v l) (hb : Below A.heap.size A B) : SlA B₀ B e size enc v l :=
  World.ownsRow.kept (row := none) h ⟨hb.os, hb.tape, hb.output, hb.size, fun k hk _ => hb.block k hk⟩ (by cases v.ownBlock <;> simp)
/-- Where a block that is not the slice's own is written. -/
theorem SlA.setCell {α : Type} {B₀ : Nat} {W : World} {e : TypeId} {size : Nat} {enc : α → List Value} {v : Value} {l : List α} (h : SlA B₀ W e size enc v l) {a : Addr} (u : Value) {cs : Array Value} {t : TypeId} {fz : Nat × Nat} (hb : W.heap[a.block]? = some (.cells cs t fz)) (ht : t ≠ e) : SlA B₀ (W.setCell a u) e size enc v l := by
  refine World.ownsRow.kept (row := some a.block) h ⟨rfl, rfl, rfl, by simp [World.setCell], fun k _ hk => Below.heap_setCell _ _ _ k (fun e => hk (by rw [e]))⟩ ?_
  rcases h.2 with ⟨rfl, _⟩ | ⟨g, cap, cur, rfl, _, hgg, _⟩
  · left; rfl
  · right
    intro e'
    obtain rfl : g = a.block := by simpa [Value.ownBlock] using e'
    rw [hgg] at hb; simp at hb; exact ht hb.2.1.symm
theorem SlA.shape {α : Type} {B₀ : Nat} {W : World} {e : TypeId} {size : Nat} {enc : α → List Value} {v : Value} {l : List α} (h : SlA B₀ W e size enc v l) : (v = .slice none 0 0 ∧ l = []) ∨ ∃ g cap, v = .slice (some ⟨g, 0, none⟩) l.length cap ∧ l.length ≤ cap ∧ cap ≤ maxLen := by
  rcases h.2 with ⟨hv, hn⟩ | ⟨g, cap, cur, hv, _, _, h1, h2, _⟩
  · exact .inl ⟨hv, List.eq_nil_of_length_eq_zero hn⟩
  · exact .inr ⟨g, cap, hv, h1, h2⟩
theorem SlA.cell {α : Type} {B₀ : Nat} {W : World} {e : TypeId} {size : Nat} {enc : α → List Value} (he : ∀ a, (enc a).length = size) {g cap n : Nat} {l : List α} (h : SlA B₀ W e size enc (.slice (some ⟨g, 0, none⟩) n cap) l)
    {i : Nat} (hi : i < l.length) {j : Nat} (hj : j < size) : W.cell? ⟨g, i * size + j, none⟩ = (enc l[i])[j]? := by
  have hc := World.ownsRow.cells h (g := g) rfl (i * size + j) ((enc l[i])[j]'(by rw [he]; exact hj)) (by rw [flatMap_get he l i j hi hj]; exact List.getElem?_eq_getElem _)
  rw [List.getElem?_eq_getElem (by rw [he]; exact hj), ← hc]
  congr 1
  unfold Addr.add
  split <;> simp_all
/-- A slice's length in its value. -/
def slLen : Value → Value
  | .slice _ n _ => .int .i64 n
  | _ => .int .i64 0
theorem SlA.len {α : Type} {B₀ : Nat} {W : World} {e : TypeId} {size : Nat} {enc : α → List Value} {v : Value} {l : List α} (h : SlA B₀ W e size enc v l) : ∃ a cap, v = .slice a l.length cap := by
  rcases h.shape with ⟨rfl, rfl⟩ | ⟨g, cap, rfl, _⟩
  · exact ⟨_, _, rfl⟩
  · exact ⟨_, _, rfl⟩
/-- What an append of one list to another leaves. -/
theorem SlA.append {α : Type} {B₀ : Nat} {W' : World} {e : TypeId} {size : Nat} {enc : α → List Value} {v' : Value} {l : List α} {n m : Nat} {xs : List Value} {l2 : List α} (h : W'.ownsRow B₀ e size v' (n + m) (l.flatMap enc ++ xs)) (hn : n = l.length) (hm : m = l2.length) (hx : xs = l2.flatMap enc) :
    SlA B₀ W' e size enc v' (l ++ l2) := by
  subst hn hm hx
  unfold SlA
  rw [List.length_append, List.flatMap_append]
  exact h
theorem below_grown {A B : World} {B₀ : Nat} {row : Option Nat} (hg : A.grownBy B row) (hr : ∀ k, row = some k → B₀ ≤ k) (h0 : B₀ ≤ A.heap.size) : Below B₀ A B :=
  (Below.refl B₀ A).grown hg h0 hr

/-- What the table says of a slice's element type. -/
def Elem (P : Program) (t e : TypeId) (size bytes : Nat) : Prop :=
  P.underlying t = some (.slice e) ∧ ∃ i z, P.info? e = some i ∧ i.zero = some z ∧ i.size = size ∧ i.bytes = bytes ∧ z.cells.size = size ∧ 0 < size ∧ 0 < bytes
theorem elem_of {P : Program} {t e : TypeId} {z : Value} {size bytes : Nat} (ht : P.underlying t = some (.slice e)) (h : (P.info? e).map (fun i => (i.zero, i.size, i.bytes)) = some (some z, size, bytes)) (hz : z.cells.size = size) (h0 : 0 < size) (h1 : 0 < bytes) : Elem P t e size bytes := by
  obtain ⟨i, hi, hzz⟩ := Option.map_eq_some_iff.1 h
  simp only [Prod.mk.injEq] at hzz
  exact ⟨ht, i, z, hi, hzz.1, hzz.2.1, hzz.2.2, hz, h0, h1⟩

/-- append of one element that has just been laid in a block of its own. -/
theorem wp_app1 {α : Type} {P : Program} {ops : Array Oper} {rest : List Oper} {o : Oper} {a : Act} {Q : Exit → Act → World → Prop} {t e : TypeId} {size bytes : Nat} (hE : Elem P t e size bytes) {enc : α → List Value} (he : ∀ a, (enc a).length = size)
    (hgd : o.guard = none) (s x : Operand) (ho : o.op = .call { callee := .builtin .append, args := #[s, x], argTypes := #[t, t] })
    {B₀ : Nat} {w0 : World} {v : Value} {l : List α} (hs : a.eval s = v) (hS : SlA B₀ w0 e size enc v l) (y : α) {c : Nat} (hx : a.eval x = .slice (some ⟨w0.heap.size, 0, none⟩) 1 c) {cs : Array Value} (hcs : cs.toList = enc y) (h1 : ∀ u ∈ enc y, u.oneCell' = true)
    (hbytes : (l.length + 1) * bytes ≤ 140737488355328) (hbase : B₀ ≤ w0.heap.size)
    (h : ∀ v' w', SlA B₀ w' e size enc v' (l ++ [y]) → Below B₀ w0 w' → wpList P ops Q rest (a.put o.dst v') w') : wpList P ops Q (o :: rest) a (w0.alloc (.cells cs e)) := by
  obtain ⟨ht, i, z, hi, hz, hsz, hby, hzs, h0, hb0⟩ := hE
  have hnew : (w0.alloc (.cells cs e)).heap[w0.heap.size]? = some (.cells cs e) := by show (w0.heap.push _)[w0.heap.size]? = _; simp
  refine wpList_append_own _ hgd s x t ho B₀ e i z size bytes ht hi hz hsz hby hzs h0 v l.length (l.flatMap enc) hs (World.ownsRow.alloc hS _) ⟨w0.heap.size, 0, none⟩ 1 c (enc y) hx (by rw [he, Nat.one_mul]) ?_ h1 ?_ hbytes (by simp; omega) ?_
  · intro j u hu
    have e1 : (⟨w0.heap.size, 0, none⟩ : Addr).add j = ⟨w0.heap.size, j, none⟩ := by unfold Addr.add; split <;> simp_all
    rw [e1]
    rw [← hcs] at hu
    simp only [World.cell?, hnew]
    simpa using hu
  · have : (l.length + 1) * 1 ≤ (l.length + 1) * bytes := Nat.mul_le_mul_left _ hb0
    simp only [maxLen]; omega
  · intro v' w' hown hg _
    refine h v' w' (SlA.append (l2 := [y]) hown rfl rfl (by simp)) ?_
    refine ((Below.refl B₀ w0).alloc hbase _).grown hg (by simp; omega) ?_
    intro k hk
    rcases hS.2 with ⟨rfl, _⟩ | ⟨g, cap, cur, rfl, hb, _⟩
    · simp [Value.ownBlock] at hk
    · simp [Value.ownBlock] at hk; omega
end Go.Proofs.Ytplccefjljdjnaa
namespace Go.Proofs.Ytplccefjljdjnaa

section
variable {F : Fence} {n : Nat} {P : Program} {ops : Array Oper} {Q : Exit → Act → World → Prop} {S : World → Prop}

/-- j waits for i, by at most k edges. -/
def anc (ops : Array Oper) : Nat → Nat → Nat → Bool
  | 0, _, _ => false
  | k + 1, j, i => match ops[j]? with
    | none => false
    | some o => o.after.any fun e => Region.binds .any e && (e.on == i || anc ops k e.on i)
/-- What is listed, all that it waits for is listed. -/
def Down (ops : Array Oper) (listed : Array Bool) : Prop := ∀ (j : Nat) (o : Oper), ops[j]? = some o → listed.getD j true = true → ∀ e ∈ o.after, Region.binds .any e = true → listed.getD e.on false = true
/-- Number i waits for all that is listed. -/
def bar (ops : Array Oper) (listed : Array Bool) (i : Nat) : Bool := (List.range ops.size).all fun j => !listed.getD j true || anc ops ops.size i j

theorem anc_listed {listed : Array Bool} (hd : Down ops listed) : ∀ (k j i : Nat), anc ops k j i = true → listed.getD j true = true → listed.getD i false = true
  | 0, _, _, h, _ => by cases h
  | k + 1, j, i, h, hj => by
    unfold anc at h
    split at h
    · cases h
    · rename_i o ho
      obtain ⟨e, he, h⟩ := Array.any_eq_true'.1 h
      simp only [Bool.and_eq_true, Bool.or_eq_true, beq_iff_eq] at h
      have h1 := hd j o ho hj e he h.1
      rcases h.2 with rfl | h2
      · exact h1
      · refine anc_listed hd k e.on i h2 ?_
        rw [Array.getD_eq_getD_getElem?] at h1 ⊢
        cases hx : listed[e.on]? with
        | none => rfl
        | some x => rw [hx] at h1; exact h1
theorem anc_not_ready {listed : Array Bool} (hd : Down ops listed) {k j i : Nat} (h : anc ops k j i = true) (hi : listed.getD i true = false) (hi2 : i < listed.size) : j ∉ Region.ready .any ops listed := by
  intro hr
  obtain ⟨_, o, ho, hall⟩ := mem_ready.1 hr
  have hi3 : listed.getD i false = false := by
    rw [Array.getD_eq_getD_getElem?] at hi ⊢
    rw [Array.getElem?_eq_getElem hi2] at hi ⊢
    exact hi
  cases k with
  | zero => cases h
  | succ k =>
    unfold anc at h
    rw [ho] at h
    obtain ⟨e, he, h⟩ := Array.any_eq_true'.1 h
    simp only [Bool.and_eq_true, Bool.or_eq_true, beq_iff_eq] at h
    have h1 := hall e he h.1
    rcases h.2 with rfl | h2
    · rw [h1] at hi3; cases hi3
    · have h1' : listed.getD e.on true = true := by
        rw [Array.getD_eq_getD_getElem?] at h1 ⊢
        cases hx : listed[e.on]? with
        | none => rfl
        | some x => rw [hx] at h1; exact h1
      have := anc_listed hd k e.on i h2 h1'
      rw [this] at hi3; cases hi3
theorem Down.set {listed : Array Bool} (hd : Down ops listed) {j : Nat} (hr : j ∈ Region.ready .any ops listed) : Down ops (listed.setIfInBounds j true) := by
  intro m o hm hl e he hb
  have mono : listed.getD e.on false = true → (listed.setIfInBounds j true).getD e.on false = true := fun h => by
    by_cases x : j = e.on
    · rw [x]
      have hlt : e.on < listed.size := by
        rcases Nat.lt_or_ge e.on listed.size with h' | h'
        · exact h'
        · rw [Array.getD_eq_getD_getElem?, Array.getElem?_eq_none h'] at h; cases h
      simp [hlt]
    · rw [getD_set_ne false x]; exact h
  by_cases x : j = m
  · subst x
    obtain ⟨_, o', ho', hall⟩ := mem_ready.1 hr
    rw [ho'] at hm; cases hm
    exact mono (hall e he hb)
  · rw [getD_set_ne true x] at hl
    exact mono (hd m o hm hl e he hb)
theorem down_start : Down ops (Array.replicate ops.size false) := by
  intro j o hj hl
  have : j < ops.size := (Array.getElem?_eq_some_iff.1 hj).1
  simp [this] at hl

/-- Whatever order is drawn from here on; S holds behind each operation, or the operation waits for all that has come up (then nothing that has come up could have come later). -/
def AnyH (F : Fence) (n : Nat) (P : Program) (ops : Array Oper) (Q : Exit → Act → World → Prop) (S : World → Prop) : Nat → Array Bool → Act → World → Prop
  | 0, listed, a, w => Region.ready .any ops listed = [] ∧ Q .normal a w
  | k + 1, listed, a, w => (Region.ready .any ops listed = [] → Q .normal a w) ∧
      ∀ i ∈ Region.ready .any ops listed, wpOpIn F n P ops Q i (fun a' w' => (S w' ∧ AnyH F n P ops Q S k (listed.setIfInBounds i true) a' w') ∨
        (bar ops listed i = true ∧ wpAnyIn F n P .any ops Q k (listed.setIfInBounds i true) a' w')) a w

theorem AnyH.any : ∀ (k : Nat) {listed : Array Bool} {a : Act} {w : World}, AnyH F n P ops Q S k listed a w → wpAnyIn F n P .any ops Q k listed a w
  | 0, _, _, _, h => h
  | k + 1, _, _, _, h => ⟨h.1, fun i hi => wpOpIn_mono (fun _ _ x => x.elim (fun y => AnyH.any k y.2) (fun y => y.2)) (h.2 i hi)⟩

theorem gives_op (hF : ∀ f, F.fn f) {i : Nat} {o : Oper} {v : Value} {a : Act} (hro : F.round = none ∨ ∀ c, o.op ≠ .defer c) (hi : ops[i]? = some o) (hy : YieldsIf P ops S o v a) {K : Act → World → Prop} {w : World} (hS : S w) (h : K (a.put o.dst v) w) : wpOpIn F n P ops Q i K a w := by
  have hab : ∀ f, o.about P w a.eval = some f → F.fn f := fun f _ => hF f
  have hsem : o.semAt F.round a.eval = execOp a.eval o := by
    rcases hro with h | h
    · rw [h]; rfl
    · exact Oper.semAt_eq _ _ _ h
  unfold wpOpIn
  rw [hi]
  rcases hy with ⟨hw, hv⟩ | ⟨hw, rfl⟩
  · simp only [hw, if_true, Oper.wpIn, hsem, hv w hS, Oper.uponIn]; exact ⟨hab, h⟩
  · simp only [hw, Bool.false_eq_true, if_false]; exact ⟨hab, h⟩

/-- A put that the operation does not look at. -/
theorem gives_put {o : Oper} {v : Value} {a : Act} (hy : YieldsIf P ops S o v a) (hs : ∀ cs b, o.op ≠ .select cs b) (dst : Option Tmp) (u : Value) (h : ∀ d, dst = some d → d ∉ o.looksAt ops) : YieldsIf P ops S o v (a.put dst u) :=
  hy.of_same (execOp_put o hs a dst u h) (wanted_put o a dst u h)

/-- An operation apart from one that gives its value: it does not matter which comes first. -/
theorem apart_swap (hF : ∀ f, F.fn f) {j : Nat} {oi oj : Oper} {v : Value} (hnd : F.round = none ∨ ∀ c, oj.op ≠ .defer c) (hj : ops[j]? = some oj) (hap : oi.apart ops oj = true) (hsi : ∀ cs b, oi.op ≠ .select cs b) (hsj : ∀ cs b, oj.op ≠ .select cs b)
    (hQ : ∀ c a w, Q (.panic c) (a.put oi.dst v) w → Q (.panic c) a w) {K : Act → World → Prop} {a : Act} {w : World} (hy : YieldsIf P ops S oi v a) (h : wpOpIn F n P ops Q j K (a.put oi.dst v) w) :
    wpOpIn F n P ops Q j (fun a' w' => YieldsIf P ops S oi v a' ∧ K (a'.put oi.dst v) w') a w := by
  obtain ⟨h1, h2, h3⟩ := Oper.apart_spec hap
  have hk : ∀ u, YieldsIf P ops S oi v (a.put oj.dst u) := fun u => gives_put hy hsi oj.dst u h3
  have hkd : ∀ d u, YieldsIf P ops S oi v (({ a with defers := d :: a.defers } : Act).put oj.dst u) := fun d u =>
    gives_put (a := { a with defers := d :: a.defers }) (hy.of_same rfl rfl) hsi oj.dst u h3
  have hsem : ∀ a : Act, oj.semAt F.round a.eval = execOp a.eval oj := fun a => by
    rcases hnd with h | h
    · rw [h]; rfl
    · exact Oper.semAt_eq _ _ _ h
  have hcomm : ∀ u, (a.put oi.dst v).put oj.dst u = (a.put oj.dst u).put oi.dst v := fun u => (Act.put_comm a v u h2)
  unfold wpOpIn at *
  rw [hj] at *
  dsimp only at *
  rw [wanted_put oj a oi.dst v h1] at h
  by_cases hw : Region.wanted oj (yielded ops a.tmps) = true
  · rw [if_pos hw] at h ⊢
    unfold Oper.wpIn at *
    rw [hsem, execOp_put oj hsj a oi.dst v h1] at h
    rw [hsem]
    refine ⟨fun f _ => hF f, ?_⟩
    have h' := h.2
    clear h
    revert h'
    generalize (execOp a.eval oj).run P w = r
    intro h'
    cases r with
    | halt x w' => cases x <;> first | exact h' | exact hQ _ _ _ h'
    | ok x w' =>
      cases x <;> first
        | exact h'
        | (refine ⟨hk _, ?_⟩; have e := h'; simp only [Oper.uponIn] at e; rw [hcomm] at e; exact e)
        | (refine ⟨hkd _ _, ?_⟩
           have e := h'
           simp only [Oper.uponIn] at e
           rw [← Act.put_comm _ v undef h2, ← Act.put_defers]
           exact e)
        | exact ⟨h'.1, CallsIn.mono h'.2 fun e w'' he => by
            cases e with
            | returned u => exact ⟨hk u, by rw [← hcomm]; exact he⟩
            | panicked c => exact hQ _ _ _ he
            | outgrown => exact he⟩
        | exact ⟨h'.1, RowsIn.mono h'.2 fun u w'' he => ⟨hk u, by rw [← hcomm]; exact he⟩⟩
        | exact ⟨h'.1, RoundIn.mono h'.2 fun e w'' he => by
            cases e with
            | returned u => exact ⟨hk u, by rw [← hcomm]; exact he⟩
            | panicked c => exact hQ _ _ _ he
            | outgrown => exact he⟩
  · rw [if_neg hw] at h ⊢
    exact ⟨fun f _ => hF f, hk _, by rw [← hcomm]; exact h.2⟩

theorem AnyH.first (hF : ∀ f, F.fn f) {i : Nat} {oi : Oper} {v : Value} (hnd : F.round = none ∨ ∀ (j : Nat) (o : Oper), ops[j]? = some o → ∀ c, o.op ≠ .defer c) (hi : ops[i]? = some oi) (hsel : ∀ (j : Nat) (o : Oper) cs b, ops[j]? = some o → o.op ≠ .select cs b) (hQ : ∀ c a w, Q (.panic c) (a.put oi.dst v) w → Q (.panic c) a w) :
    ∀ (k : Nat) (listed : Array Bool) (a : Act) (w : World),
      Down ops listed → (∀ j oj, ops[j]? = some oj → j ≠ i → listed.getD j true = false → (∀ e ∈ oj.after, Region.binds .any e = true → e.on ≠ i) → oi.apart ops oj = true) →
      i ∈ Region.ready .any ops listed → YieldsIf P ops S oi v a → S w → AnyH F n P ops Q S k (listed.setIfInBounds i true) (a.put oi.dst v) w → AnyH F n P ops Q S (k + 1) listed a w := by
  have hnd' : ∀ (j : Nat) (o : Oper), ops[j]? = some o → (F.round = none ∨ ∀ c, o.op ≠ .defer c) := fun j o hj => hnd.imp id fun h => h j o hj
  intro k
  induction k with
  | zero =>
    intro listed a w hdn _ hr hy hS H
    refine ⟨fun h => absurd (h ▸ hr) (by simp), fun j hj => ?_⟩
    by_cases e : j = i
    · subst e; exact gives_op hF (hnd' _ _ hi) hi hy hS (.inl ⟨hS, H⟩)
    · have := ready_mono hj e
      rw [H.1] at this; cases this
  | succ k ih =>
    intro listed a w hdn hfree hr hy hS H
    refine ⟨fun h => absurd (h ▸ hr) (by simp), fun j hj => ?_⟩
    by_cases e : j = i
    · subst e; exact gives_op hF (hnd' _ _ hi) hi hy hS (.inl ⟨hS, H⟩)
    obtain ⟨hun, oj, hoj, hall⟩ := mem_ready.1 hj
    have hnot : ∀ e ∈ oj.after, Region.binds .any e = true → e.on ≠ i := fun e he hb heq => by
      have x1 := hall e he hb
      have x0 := (mem_ready.1 hr).1
      rw [heq] at x1
      by_cases hb : i < listed.size
      · simp [hb] at x0 x1; rw [x0] at x1; cases x1
      · simp [Array.getElem?_eq_none (Nat.le_of_not_lt hb)] at x1
    have h2 := apart_swap hF (hnd' _ _ hoj) hoj (hfree j oj hoj e hun hnot) (fun cs b => hsel i oi cs b hi) (fun cs b => hsel j oj cs b hoj) hQ hy (H.2 j (ready_mono hj e))
    have hir := mem_ready.1 hr
    have hin : i < listed.size := by
      rcases Nat.lt_or_ge i listed.size with h | h
      · exact h
      · have := hir.1; simp [Array.getElem?_eq_none h] at this
    refine wpOpIn_mono (fun a' w' x => ?_) h2
    rcases x.2 with y | y
    · refine .inl ⟨y.1, ih _ a' w' (hdn.set hj) (fun m om hm hmi hmu hmn => ?_) (ready_mono hr (Ne.symm e)) x.1 y.1 ?_⟩
      · refine hfree m om hm hmi ?_ hmn
        by_cases ej : j = m
        · subst ej; exact hun
        · rw [getD_set_ne true ej] at hmu; exact hmu
      · rw [Array.setIfInBounds_comm _ _ e]; exact y.2
    · exfalso
      have hb := y.1
      unfold bar at hb
      have hio : i < ops.size := (Array.getElem?_eq_some_iff.1 hi).1
      have := List.all_eq_true.1 hb i (List.mem_range.2 hio)
      have hl : (listed.setIfInBounds i true).getD i true = true := by simp [Array.getD_eq_getD_getElem?, hin]
      rw [hl] at this
      exact anc_not_ready hdn (k := ops.size) (by simpa using this) hir.1 hin hj

/-- No operation of the region is a defer statement. -/
def noDefer (ops : Array Oper) : Bool := ops.all fun o => match o.op with | .defer _ => false | _ => true
theorem noDefer_spec (h : noDefer ops = true) : ∀ (j : Nat) (o : Oper), ops[j]? = some o → ∀ c, o.op ≠ .defer c := by
  intro j o hj c e
  obtain ⟨hlt, rfl⟩ := Array.getElem?_eq_some_iff.1 hj
  have := Array.all_eq_true.1 h j hlt
  rw [e] at this; cases this

/-- 'Down', as a Bool. -/
def downB (ops : Array Oper) (listed : Array Bool) : Bool := (List.range ops.size).all fun j => match ops[j]? with
  | none => true
  | some o => !listed.getD j true || o.after.all fun e => !Region.binds .any e || listed.getD e.on false
theorem downB_spec {listed : Array Bool} (h : downB ops listed = true) : Down ops listed := by
  intro j o hj hl e he hb
  have h1 := List.all_eq_true.1 h j (List.mem_range.2 (Array.getElem?_eq_some_iff.1 hj).1)
  rw [hj] at h1
  simp only [hl, Bool.not_true, Bool.false_or] at h1
  have h2 := Array.all_eq_true'.1 h1 e he
  rw [hb] at h2
  simpa using h2
/-- Number i may be taken first. -/
def takeOk (ops : Array Oper) (listed : Array Bool) (i : Nat) : Bool := downB ops listed && noDefer ops && Region.noSelect ops && Region.free .any ops listed i && (Region.ready .any ops listed).contains i

theorem AnyH.take {i : Nat} {oi : Oper} {d : Option Tmp} {v : Value} {k : Nat} {listed : Array Bool} {a : Act} {w : World} (hc : takeOk ops listed i = true) (hi : ops[i]? = some oi) (hd : oi.dst = d) (hF : ∀ f, F.fn f)
    (hQ : ∀ c a w, Q (.panic c) (a.put d v) w → Q (.panic c) a w) (hy : YieldsIf P ops S oi v a) (hS : S w) (h : AnyH F n P ops Q S k (listed.setIfInBounds i true) (a.put d v) w) : AnyH F n P ops Q S (k + 1) listed a w := by
  subst hd
  unfold takeOk at hc
  simp only [Bool.and_eq_true] at hc
  obtain ⟨⟨⟨⟨h0, h1⟩, h2⟩, h3⟩, h4⟩ := hc
  exact AnyH.first hF (.inr (noDefer_spec h1)) hi (Region.noSelect_spec h2) hQ k listed a w (downB_spec h0) (Region.free_spec hi h3) (by simpa using h4) hy hS h

/-- One alone may come up, and is carried out. -/
theorem AnyH.one {i : Nat} {oi : Oper} {k : Nat} {listed : Array Bool} {a : Act} {w : World} (hr : (Region.ready .any ops listed == [i]) = true) (hd : noDefer ops = true) (hi : ops[i]? = some oi) (hF : ∀ f, F.fn f) (hw : Region.wanted oi (yielded ops a.tmps) = true)
    (h : ∀ K : Act → World → Prop, (∀ a w, S w → AnyH F n P ops Q S k (listed.setIfInBounds i true) a w → K a w) → oi.uponIn F n P a K Q ((execOp a.eval oi).run P w)) :
    AnyH F n P ops Q S (k + 1) listed a w := by
  have hr : Region.ready .any ops listed = [i] := by simpa using hr
  refine ⟨fun h0 => (by rw [hr] at h0; cases h0), fun j hj => ?_⟩
  rw [hr] at hj
  obtain rfl : j = i := by simpa using hj
  refine wpOpIn_step hi fun K hK => ?_
  rw [if_pos hw]
  refine ⟨fun f _ => hF f, ?_⟩
  rw [Oper.semAt_eq _ _ _ (noDefer_spec hd _ _ hi)]
  exact h K fun a w hS hA => hK a w (.inl ⟨hS, hA⟩)

/-- One alone may come up, it waits for all that has come up, and is carried out: behind it another S may be chosen. -/
theorem AnyH.wall {i : Nat} {oi : Oper} {k : Nat} {listed : Array Bool} {a : Act} {w : World} (hr : (Region.ready .any ops listed == [i] && bar ops listed i && noDefer ops) = true) (hi : ops[i]? = some oi) (hF : ∀ f, F.fn f) (hw : Region.wanted oi (yielded ops a.tmps) = true)
    (h : ∀ K : Act → World → Prop, (∀ (S' : World → Prop) a w, AnyH F n P ops Q S' k (listed.setIfInBounds i true) a w → K a w) → oi.uponIn F n P a K Q ((execOp a.eval oi).run P w)) :
    AnyH F n P ops Q S (k + 1) listed a w := by
  simp only [Bool.and_eq_true] at hr
  have hd := hr.2
  have hb := hr.1.2
  have hr : Region.ready .any ops listed = [i] := by simpa using hr.1.1
  refine ⟨fun h0 => (by rw [hr] at h0; cases h0), fun j hj => ?_⟩
  rw [hr] at hj
  obtain rfl : j = i := by simpa using hj
  refine wpOpIn_step hi fun K hK => ?_
  rw [if_pos hw]
  refine ⟨fun f _ => hF f, ?_⟩
  rw [Oper.semAt_eq _ _ _ (noDefer_spec hd _ _ hi)]
  exact h K fun S' a w hA => hK a w (.inr ⟨hb, AnyH.any k hA⟩)

theorem AnyH.done {k : Nat} {listed : Array Bool} {a : Act} {w : World} (hr : Region.ready .any ops listed = []) (h : Q .normal a w) : AnyH F n P ops Q S k listed a w := by
  cases k with
  | zero => exact ⟨hr, h⟩
  | succ k => exact ⟨fun _ => h, by rw [hr]; simp⟩

theorem wpIn_region_anyH {id : Nat} {l : List Oper} {a : Act} {w : World} (S : World → Prop) (hm : P.follows .mixedOrders = true) (h : AnyH F n P l.toArray Q S l.length (Array.replicate l.length false) a w.drew) : (Code.region id l.toArray true).wpIn F n P Q a w :=
  wpIn_region_any hm (AnyH.any _ (by simpa using h))
end
/-- The same outside every fence. -/
theorem wp_region_anyH {P : Program} {Q : Exit → Act → World → Prop} {id : Nat} {l : List Oper} {a : Act} {w : World} (S : World → Prop) (hm : P.follows .mixedOrders = true) (h : AnyH Fence.wide 0 P l.toArray Q S l.length (Array.replicate l.length false) a w.drew) : (Code.region id l.toArray true).wp P Q a w :=
  (wpIn_wide (n := 0)).1 (wpIn_region_anyH S hm h)
end Go.Proofs.Ytplccefjljdjnaa
namespace Go.Proofs.Ytplccefjljdjnaa
open Go.RowKit

/-- What the law's steps may turn: a block from B on that holds no cells. -/
def CalmRow (B : Nat) (A : World) (row : Option Nat) : Prop := ∀ r, row = some r → B ≤ r ∧ ∃ o : Obj, A.heap[r]? = some o ∧ o.isCells = false
theorem own_cells {B : Nat} {A C : World} {row : Option Nat} (hg : A.grownBy C row) (hr : CalmRow B A row) {k : Nat} {cs : Array Value} {t : TypeId} {fz : Nat × Nat} (h : A.heap[k]? = some (.cells cs t fz)) : C.heap[k]? = some (.cells cs t fz) := by
  rw [hg.block k (Array.getElem?_eq_some_iff.1 h).1 (fun e => ?_)]
  · exact h
  · obtain ⟨-, o, ho, hc⟩ := hr k e.symm
    rw [h] at ho; cases ho; cases hc
theorem own_SlA {α : Type} {B B₀ : Nat} {A C : World} {row : Option Nat} (hg : A.grownBy C row) (hr : CalmRow B A row) {e : TypeId} {size : Nat} {enc : α → List Value} {v : Value} {l : List α} (h : SlA B₀ A e size enc v l) : SlA B₀ C e size enc v l := by
  refine World.ownsRow.kept h hg ?_
  rcases h.2 with ⟨rfl, _⟩ | ⟨g, cap, cur, rfl, _, hgb, _⟩
  · exact .inl rfl
  · right
    intro e'
    obtain ⟨-, o, ho, hc⟩ := hr g (by simpa [Value.ownBlock] using e'.symm)
    rw [hgb] at ho; cases ho; cases hc
theorem own_below {B n₀ : Nat} {w₀ A C : World} {row : Option Nat} (hg : A.grownBy C row) (hr : CalmRow B A row) (hn : n₀ ≤ w₀.heap.size) (hB : n₀ ≤ B) (h : Below n₀ w₀ A) : Below n₀ w₀ C :=
  h.grown hg (Nat.le_trans hn h.size) (fun k e => Nat.le_trans hB (hr k e).1)
theorem keepsOthers_below {A C : World} (h : Below A.heap.size A C) : KeepsOthers A C := ⟨h.size, fun k o hk _ => by rw [h.block k (Array.getElem?_eq_some_iff.1 hk).1]; exact hk⟩
theorem keepsOthers_setCell {A C : World} (h : KeepsOthers A C) (a : Addr) (v : Value) : KeepsOthers A (C.setCell a v) := h.trans (KeepsOthers.setCell _ _ _)
theorem heap_putObj_cells {W : World} {k l : Nat} {cs : Array Value} {t : TypeId} {fz : Nat × Nat} {o o' : Obj} (h : W.heap[k]? = some (.cells cs t fz)) (hl : W.heap[l]? = some o) (ho : o.isCells = false) : (W.putObj l o').heap[k]? = some (.cells cs t fz) := by
  have hg := grownBy_putObj' W l o'
  exact own_cells (B := 0) hg (fun r e => by cases e; exact ⟨Nat.zero_le _, o, hl, ho⟩) h
theorem slA_putObj {α : Type} {B₀ : Nat} {W : World} {e : TypeId} {size : Nat} {enc : α → List Value} {v : Value} {x : List α} {l : Nat} {o o' : Obj} (h : SlA B₀ W e size enc v x) (hl : W.heap[l]? = some o) (ho : o.isCells = false) : SlA B₀ (W.putObj l o') e size enc v x :=
  own_SlA (B := 0) (grownBy_putObj' W l o') (fun r e => by cases e; exact ⟨Nat.zero_le _, o, hl, ho⟩) h

/-- append of one element that has just been laid in a block of its own, inside a fence. -/
theorem wp_app1In {α : Type} {F : Fence} {n : Nat} {P : Program} {ops : Array Oper} {rest : List Oper} {o : Oper} {a : Act} {Q : Exit → Act → World → Prop} {t e : TypeId} {size bytes : Nat} (hE : Elem P t e size bytes) {enc : α → List Value} (he : ∀ a, (enc a).length = size)
    (hgd : o.guard = none) (s x : Operand) (ho : o.op = .call { callee := .builtin .append, args := #[s, x], argTypes := #[t, t] })
    {B₀ : Nat} {w0 : World} {v : Value} {l : List α} (hs : a.eval s = v) (hS : SlA B₀ w0 e size enc v l) (y : α) {c : Nat} (hx : a.eval x = .slice (some ⟨w0.heap.size, 0, none⟩) 1 c) {cs : Array Value} (hcs : cs.toList = enc y) (h1 : ∀ u ∈ enc y, u.oneCell' = true)
    (hbytes : (l.length + 1) * bytes ≤ 140737488355328) (hbase : B₀ ≤ w0.heap.size)
    (h : ∀ v' w', SlA B₀ w' e size enc v' (l ++ [y]) → (w0.alloc (.cells cs e)).grownBy w' v.ownBlock → Below B₀ w0 w' → wpListIn F n P ops Q rest (a.put o.dst v') w') : wpListIn F n P ops Q (o :: rest) a (w0.alloc (.cells cs e)) := by
  obtain ⟨ht, i, z, hi, hz, hsz, hby, hzs, h0, hb0⟩ := hE
  have hnew : (w0.alloc (.cells cs e)).heap[w0.heap.size]? = some (.cells cs e) := by show (w0.heap.push _)[w0.heap.size]? = _; simp
  refine wpListIn_append_own _ hgd s x t ho B₀ e i z size bytes ht hi hz hsz hby hzs h0 v l.length (l.flatMap enc) hs (World.ownsRow.alloc hS _) ⟨w0.heap.size, 0, none⟩ 1 c (enc y) hx (by rw [he, Nat.one_mul]) ?_ h1 ?_ hbytes (by simp; omega) ?_
  · intro j u hu
    have e1 : (⟨w0.heap.size, 0, none⟩ : Addr).add j = ⟨w0.heap.size, j, none⟩ := by unfold Addr.add; split <;> simp_all
    rw [e1]
    rw [← hcs] at hu
    simp only [World.cell?, hnew]
    simpa using hu
  · have : (l.length + 1) * 1 ≤ (l.length + 1) * bytes := Nat.mul_le_mul_left _ hb0
    simp only [maxLen]; omega
  · intro v' w' hown hg _
    refine h v' w' (SlA.append (l2 := [y]) hown rfl rfl (by simp)) hg ?_
    refine ((Below.refl B₀ w0).alloc hbase _).grown hg (by simp; omega) ?_
    intro k hk
    rcases hS.2 with ⟨rfl, _⟩ | ⟨g, cap, cur, rfl, hb, _⟩
    · simp [Value.ownBlock] at hk
    · simp [Value.ownBlock] at hk; omega
/-- A cells' block of another type lies on behind such an append. -/
theorem app_other {α : Type} {B₀ : Nat} {w0 w' : World} {e t : TypeId} {size : Nat} {enc : α → List Value} {v : Value} {l : List α} {cs cs' : Array Value} {fz : Nat × Nat} {k : Nat} (hS : SlA B₀ w0 e size enc v l) (hg : (w0.alloc (.cells cs e)).grownBy w' v.ownBlock) (h : w0.heap[k]? = some (.cells cs' t fz)) (ht : t ≠ e) : w'.heap[k]? = some (.cells cs' t fz) := by
  have hk := (Array.getElem?_eq_some_iff.1 h).1
  rw [hg.block k (by simp; omega) ?_, Below.heap_alloc _ _ _ hk]
  · exact h
  · rcases hS.2 with ⟨rfl, _⟩ | ⟨g, cap, cur, rfl, _, hgb, _⟩
    · simp [Value.ownBlock]
    · intro e'
      obtain rfl : k = g := by simpa [Value.ownBlock] using e'
      rw [h] at hgb; simp at hgb; exact ht hgb.2.1
/-- What is no cells' block lies on behind such an append. -/
theorem app_keepsOthers {α : Type} {B₀ : Nat} {w0 w' : World} {e : TypeId} {size : Nat} {enc : α → List Value} {v : Value} {l : List α} {cs : Array Value} (hS : SlA B₀ w0 e size enc v l) (hg : (w0.alloc (.cells cs e)).grownBy w' v.ownBlock) : KeepsOthers w0 w' := by
  refine ⟨by have := hg.size; simp at this; omega, fun k o hk ho => ?_⟩
  have hlt := (Array.getElem?_eq_some_iff.1 hk).1
  rw [hg.block k (by simp; omega) ?_, Below.heap_alloc _ _ _ hlt]
  · exact hk
  · rcases hS.2 with ⟨rfl, _⟩ | ⟨g, cap, cur, rfl, _, hgb, _⟩
    · simp [Value.ownBlock]
    · intro e'
      obtain rfl : k = g := by simpa [Value.ownBlock] using e'
      rw [hk] at hgb; cases hgb; cases ho
/-- Q, and no panic. -/
def NP (Q : Exit → Act → World → Prop) : Exit → Act → World → Prop
  | .panic _, _, _ => False
  | e, a, w => Q e a w
theorem NP.normal {Q : Exit → Act → World → Prop} {a : Act} {w : World} (h : Q .normal a w) : NP Q .normal a w := h
/-- A region that draws its order where Q may ask something of the temporaries behind a panic. -/
theorem wpIn_region_anyNP {F : Fence} {n : Nat} {P : Program} {Q : Exit → Act → World → Prop} {id : Nat} {l : List Oper} {a : Act} {w : World} (S : World → Prop) (hm : P.follows .mixedOrders = true) (h : AnyH F n P l.toArray (NP Q) S l.length (Array.replicate l.length false) a w.drew) : (Code.region id l.toArray true).wpIn F n P Q a w :=
  wpIn_mono (wpIn_region_anyH S hm h) fun e _ _ h => by cases e <;> first | exact h | exact h.elim
/-- The same outside every fence. -/
theorem wp_region_anyNP {P : Program} {Q : Exit → Act → World → Prop} {id : Nat} {l : List Oper} {a : Act} {w : World} (S : World → Prop) (hm : P.follows .mixedOrders = true) (h : AnyH Fence.wide 0 P l.toArray (NP Q) S l.length (Array.replicate l.length false) a w.drew) : (Code.region id l.toArray true).wp P Q a w :=
  (wpIn_wide (n := 0)).1 (wpIn_region_anyNP S hm h)
end Go.Proofs.Ytplccefjljdjnaa
namespace Go.Proofs.Ytplccefjljdjnaa
section
variable {F : Fence} {n : Nat} {P : Program} {ops : Array Oper} {Q : Exit → Act → World → Prop} {S : World → Prop}

/-- From number m on each operation alone may come up. -/
def lineB (ops : Array Oper) : Nat → Array Bool → Nat → Bool
  | 0, listed, m => m == ops.size && Region.ready .any ops listed == []
  | k + 1, listed, m => Region.ready .any ops listed == [m] && decide (m < ops.size) && lineB ops k (listed.setIfInBounds m true) (m + 1)

theorem line_any : ∀ (k m : Nat) {listed : Array Bool} {a : Act} {w : World}, lineB ops k listed m = true → wpListIn F n P ops Q (ops.toList.drop m) a w → wpAnyIn F n P .any ops Q k listed a w
  | 0, m, listed, a, w, hl, h => by
    simp only [lineB, Bool.and_eq_true, beq_iff_eq] at hl
    obtain ⟨rfl, hr⟩ := hl
    rw [List.drop_of_length_le (by simp)] at h
    exact ⟨hr, h⟩
  | k + 1, m, listed, a, w, hl, h => by
    simp only [lineB, Bool.and_eq_true, beq_iff_eq, decide_eq_true_eq] at hl
    obtain ⟨⟨hr, hm⟩, hl⟩ := hl
    refine ⟨fun e => (by rw [hr] at e; cases e), fun i hi => ?_⟩
    rw [hr] at hi
    obtain rfl : i = m := by simpa using hi
    have hd : ops.toList.drop i = ops[i] :: ops.toList.drop (i + 1) := by
      rw [List.drop_eq_getElem_cons (by simpa using hm)]; simp
    rw [hd] at h
    unfold wpOpIn
    rw [Array.getElem?_eq_getElem hm]
    simp only [wpListIn] at h
    show if Region.wanted ops[i] (yielded ops a.tmps) = true then _ else _
    split
    · rename_i hw
      rw [if_pos hw] at h
      exact Oper.wpIn_mono (fun _ _ => line_any k (i + 1) hl) h
    · rename_i hw
      rw [if_neg hw] at h
      exact ⟨h.1, line_any k (i + 1) hl h.2⟩

def lineOk (ops : Array Oper) (k : Nat) (listed : Array Bool) (m : Nat) : Bool := lineB ops (k + 1) listed m && bar ops listed m

/-- Behind what has been taken the rest is walked as a list. -/
theorem AnyH.tail (m : Nat) {k : Nat} {listed : Array Bool} {a : Act} {w : World} (hl : lineOk ops k listed m = true) (h : wpListIn F n P ops Q (ops.toList.drop m) a w) : AnyH F n P ops Q S (k + 1) listed a w := by
  unfold lineOk at hl
  simp only [Bool.and_eq_true] at hl
  obtain ⟨hl, hb⟩ := hl
  have hl0 := hl
  simp only [lineB, Bool.and_eq_true, beq_iff_eq] at hl
  obtain ⟨⟨hr, -⟩, -⟩ := hl
  refine ⟨fun e => (by rw [hr] at e; cases e), fun i hi => ?_⟩
  rw [hr] at hi
  obtain rfl : i = m := by simpa using hi
  have hh := (line_any (k + 1) i hl0 h).2 i (by rw [hr]; simp)
  exact wpOpIn_mono (fun _ _ x => .inr ⟨hb, x⟩) hh
theorem AnyH.tailL {l : List Oper} (m : Nat) {k : Nat} {listed : Array Bool} {a : Act} {w : World} (hl : lineOk l.toArray k listed m = true) (h : wpListIn F n P l.toArray Q (l.drop m) a w) : AnyH F n P l.toArray Q S (k + 1) listed a w :=
  AnyH.tail m hl (by simpa using h)
end
end Go.Proofs.Ytplccefjljdjnaa
namespace Go.Proofs.Ytplccefjljdjnaa
open Go.RowKit
theorem run_app1 {α : Type} {P : Program} {t e : TypeId} {size bytes : Nat} (hE : Elem P t e size bytes) {enc : α → List Value} (he : ∀ a, (enc a).length = size) (ty : TypeId)
    {B₀ : Nat} {w0 : World} {v : Value} {l : List α} (hS : SlA B₀ w0 e size enc v l) (y : α) (c : Nat) {cs : Array Value} (hcs : cs.toList = enc y) (h1 : ∀ u ∈ enc y, u.oneCell' = true)
    (hbytes : (l.length + 1) * bytes ≤ 140737488355328) (hbase : B₀ ≤ w0.heap.size) :
    ∃ v' w', (Builtin.append_ #[t, t] ty #[v, .slice (some ⟨w0.heap.size, 0, none⟩) 1 c]).run P (w0.alloc (.cells cs e)) = .ok v' w' ∧ SlA B₀ w' e size enc v' (l ++ [y]) ∧ (w0.alloc (.cells cs e)).grownBy w' v.ownBlock ∧ Below B₀ w0 w' := by
  obtain ⟨ht, i, z, hi, hz, hsz, hby, hzs, h0, hb0⟩ := hE
  have hnew : (w0.alloc (.cells cs e)).heap[w0.heap.size]? = some (.cells cs e) := by show (w0.heap.push _)[w0.heap.size]? = _; simp
  obtain ⟨v', w', hrun, hown, hg, -⟩ := run_append_own (P := P) (w0.alloc (.cells cs e)) B₀ t ty e i z size bytes ht hi hz hsz hby hzs h0 v l.length (l.flatMap enc) (World.ownsRow.alloc hS _) ⟨w0.heap.size, 0, none⟩ 1 c (enc y) (by rw [he, Nat.one_mul]) (by
    intro j u hu
    have e1 : (⟨w0.heap.size, 0, none⟩ : Addr).add j = ⟨w0.heap.size, j, none⟩ := by unfold Addr.add; split <;> simp_all
    rw [e1]
    rw [← hcs] at hu
    simp only [World.cell?, hnew]
    simpa using hu) h1 (by
    have : (l.length + 1) * 1 ≤ (l.length + 1) * bytes := Nat.mul_le_mul_left _ hb0
    simp only [maxLen]; omega) hbytes (by simp; omega)
  refine ⟨v', w', hrun, SlA.append (l2 := [y]) hown rfl rfl (by simp), hg, ?_⟩
  refine ((Below.refl B₀ w0).alloc hbase _).grown hg (by simp; omega) ?_
  intro k hk
  rcases hS.2 with ⟨rfl, _⟩ | ⟨g, cap, cur, rfl, hb, _⟩
  · simp [Value.ownBlock] at hk
  · simp [Value.ownBlock] at hk; omega
end Go.Proofs.Ytplccefjljdjnaa
namespace Go.Proofs.Ytplccefjljdjnaa
open Go.RowKit
/-- No block of type nt that lay has turned. -/
def KeepT (nt : TypeId) (W W' : World) : Prop := ∀ (b : Nat) (cs : Array Value) (fz : Nat × Nat), W.heap[b]? = some (.cells cs nt fz) → W'.heap[b]? = some (.cells cs nt fz)
theorem KeepT.refl (nt : TypeId) (W : World) : KeepT nt W W := fun _ _ _ h => h
theorem KeepT.trans {nt : TypeId} {A B C : World} (h : KeepT nt A B) (k : KeepT nt B C) : KeepT nt A C := fun b cs fz e => k b cs fz (h b cs fz e)
theorem KeepT.below {nt : TypeId} {A B : World} (h : Below A.heap.size A B) : KeepT nt A B := fun b cs fz e => by
  have hb : b < A.heap.size := (Array.getElem?_eq_some_iff.1 e).1
  rw [h.block b hb]; exact e
theorem KeepT.drew {nt : TypeId} {A B : World} (h : KeepT nt A B) : KeepT nt A B.drew := h
theorem KeepT.setCell {nt : TypeId} {W : World} {a : Addr} {v : Value} {cs : Array Value} {t : TypeId} {fz : Nat × Nat} (h : W.heap[a.block]? = some (.cells cs t fz)) (ht : t ≠ nt) : KeepT nt W (W.setCell a v) := fun b cs' fz' e => by
  have hb : b ≠ a.block := by
    intro eb; subst eb; rw [h] at e; simp at e; exact ht e.2.1
  rw [Below.heap_setCell _ _ _ _ hb]; exact e
theorem SlA.keep {α : Type} {B₀ : Nat} {A B : World} {e : TypeId} {size : Nat} {enc : α → List Value} {v : Value} {l : List α} (h : SlA B₀ A e size enc v l) (hk : KeepT e A B) : SlA B₀ B e size enc v l := by
  refine ⟨h.1, ?_⟩
  rcases h.2 with hn | ⟨g, cap, cur, hv, hb, hg, rest⟩
  · exact .inl hn
  · exact .inr ⟨g, cap, cur, hv, hb, hk _ _ _ hg, rest⟩
theorem below_none {A B : World} (h : A.grownBy B none) : Below A.heap.size A B := (Below.refl _ A).grown h (Nat.le_refl _) (fun k e => by cases e)
/-- What a list of the call's own leaves of other blocks where it grows. -/
theorem keep_own {α : Type} {B₀ : Nat} {w w' : World} {e : TypeId} {size : Nat} {enc : α → List Value} {v : Value} {l : List α} (hS : SlA B₀ w e size enc v l) (hg : w.grownBy w' v.ownBlock) {t : TypeId} (ht : t ≠ e) : KeepT t w w' := fun k cs fz h => by
  rw [hg.block k (Array.getElem?_eq_some_iff.1 h).1 ?_]
  · exact h
  · rcases hS.2 with ⟨rfl, _⟩ | ⟨g, cap, cur, rfl, _, hgb, _⟩
    · simp [Value.ownBlock]
    · intro e'
      obtain rfl : k = g := by simpa [Value.ownBlock] using e'
      rw [h] at hgb; simp at hgb; exact ht hgb.2.1
theorem below_own {α : Type} {B₀ : Nat} {w w' : World} {e : TypeId} {size : Nat} {enc : α → List Value} {v : Value} {l : List α} (hS : SlA B₀ w e size enc v l) (hg : w.grownBy w' v.ownBlock) (hb : B₀ ≤ w.heap.size) : Below B₀ w w' := by
  refine (Below.refl B₀ w).grown hg hb ?_
  intro k hk
  rcases hS.2 with ⟨rfl, _⟩ | ⟨g, cap, cur, rfl, hb, _⟩
  · simp [Value.ownBlock] at hk
  · simp [Value.ownBlock] at hk; omega
/-- append of a list to an empty slice. -/
theorem run_catE {α : Type} {P : Program} {t e : TypeId} {size bytes : Nat} (hE : Elem P t e size bytes) {enc : α → List Value} (he : ∀ a, (enc a).length = size) (ty : TypeId)
    {B₀ B₁ B : Nat} {w : World} {v2 : Value} {l2 : List α} (h0 : SlA B₀ w e size enc (.slice (some ⟨B, 0, none⟩) 0 0) []) (hS2 : SlA B₁ w e size enc v2 l2) (hbytes : l2.length * bytes ≤ 140737488355328) (hbase : B₀ ≤ w.heap.size) :
    ∃ v' w', (Builtin.append_ #[t, t] ty #[.slice (some ⟨B, 0, none⟩) 0 0, v2]).run P w = .ok v' w' ∧ SlA B₀ w' e size enc v' l2 ∧ Below w.heap.size w w' := by
  obtain ⟨ht, i, z, hi, hz, hsz, hby, hzs, hp0, hb0⟩ := hE
  by_cases hl : l2 = []
  · subst hl
    obtain ⟨a, c, rfl⟩ := hS2.len
    refine ⟨_, w, ?_, h0, Below.refl _ _⟩
    cases a <;> simp [Builtin.append_, run_underlying ht, sizeOf, typeInfo, hi, Builtin.lenOf, Builtin.firstCells, storeCells, loadCells, loadCellsFrom]
  · rcases hS2.shape with ⟨-, rfl⟩ | ⟨g, cap, rfl, hc1, hc2⟩
    · exact absurd rfl hl
    · have hlen : 0 < l2.length := List.length_pos_iff.2 hl
      obtain ⟨v', w', hrun, hown, hg⟩ := run_append_arg_grows (P := P) w t ty e i z size bytes ht hi hz hsz hby hzs hp0 ⟨B, 0, none⟩ 0 0 [] (by simp) (fun j u h => by simp at h) ⟨g, 0, none⟩ l2.length cap (l2.flatMap enc) (flatMap_len he l2) (fun j u hu => World.ownsRow.cells hS2 (g := g) rfl j u hu) (by omega) (by
        have : l2.length * 1 ≤ l2.length * bytes := Nat.mul_le_mul_left _ hb0
        simp only [maxLen]; omega) (by rw [Nat.zero_add]; exact hbytes)
      rw [Nat.zero_add, List.nil_append] at hown
      exact ⟨v', w', hrun, SlA.mono (show SlA w.heap.size w' e size enc v' l2 from hown) hbase, below_none hg⟩
/-- append of a list that is not nil to a list of the call's own. -/
theorem run_catO {α : Type} {P : Program} {t e : TypeId} {size bytes : Nat} (hE : Elem P t e size bytes) {enc : α → List Value} (he : ∀ a, (enc a).length = size) (h1 : ∀ y, ∀ u ∈ enc y, u.oneCell' = true) (ty : TypeId)
    {B₀ B₁ g cap : Nat} {w : World} {v : Value} {l l2 : List α} (hS : SlA B₀ w e size enc v l) (hS2 : SlA B₁ w e size enc (.slice (some ⟨g, 0, none⟩) l2.length cap) l2) (hbytes : (l.length + l2.length) * bytes ≤ 140737488355328) (hbase : B₀ ≤ w.heap.size) :
    ∃ v' w', (Builtin.append_ #[t, t] ty #[v, .slice (some ⟨g, 0, none⟩) l2.length cap]).run P w = .ok v' w' ∧ SlA B₀ w' e size enc v' (l ++ l2) ∧ w.grownBy w' v.ownBlock ∧ Below B₀ w w' := by
  obtain ⟨ht, i, z, hi, hz, hsz, hby, hzs, h0, hb0⟩ := hE
  obtain ⟨v', w', hrun, hown, hg, -⟩ := run_append_own (P := P) w B₀ t ty e i z size bytes ht hi hz hsz hby hzs h0 v l.length (l.flatMap enc) hS ⟨g, 0, none⟩ l2.length cap (l2.flatMap enc) (flatMap_len he l2) (fun j u hu => World.ownsRow.cells hS2 (g := g) rfl j u hu) (by
    intro u hu
    obtain ⟨y, -, hy⟩ := List.mem_flatMap.1 hu
    exact h1 y u hy) (by
    have : (l.length + l2.length) * 1 ≤ (l.length + l2.length) * bytes := Nat.mul_le_mul_left _ hb0
    simp only [maxLen]; omega) hbytes hbase
  exact ⟨v', w', hrun, SlA.append (l2 := l2) hown rfl rfl rfl, hg, below_own hS hg hbase⟩
/-- A slice that the text wrote out. -/
theorem SlA.lit {α : Type} {w : World} {e : TypeId} {size : Nat} {enc : α → List Value} (he : ∀ a, (enc a).length = size) {cs : Array Value} {l : List α} (hcs : cs.toList = l.flatMap enc) (hn : l.length ≤ maxLen) :
    SlA w.heap.size (w.alloc (.cells cs e)) e size enc (.slice (some ⟨w.heap.size, 0, none⟩) l.length l.length) l := by
  refine ⟨flatMap_len he l, .inr ⟨w.heap.size, l.length, cs, rfl, Nat.le_refl _, ?_, Nat.le_refl _, hn, ?_, ?_⟩⟩
  · show (w.heap.push _)[w.heap.size]? = _
    simp
  · rw [← flatMap_len he l, ← hcs]; simp
  · rw [hcs, ← flatMap_len he l, List.take_length]
end Go.Proofs.Ytplccefjljdjnaa
namespace Go.Proofs.Ytplccefjljdjnaa
open Go.RowKit

theorem wrap_in {x : Int} (h : -9223372036854775808 ≤ x) (h2 : x ≤ 9223372036854775807) : IntKind.i64.wrap x = x := by rw [IntKind.wrap_i64]; omega
theorem heap_new (W : World) (o : Obj) : (W.alloc o).heap[W.heap.size]? = some o := by
  show (W.heap.push o)[W.heap.size]? = _
  simp
theorem heap_new1 (W : World) (o o' : Obj) : ((W.alloc o).alloc o').heap[W.heap.size + 1]? = some o' := by
  have := heap_new (W.alloc o) o'; rwa [World.size_alloc] at this
theorem Below.step {A B C : World} (h : Below A.heap.size A B) (k : Below B.heap.size B C) : Below A.heap.size A C := h.trans (k.mono h.size)
theorem box_cell {W : World} {B : Nat} {t : TypeId} {v : Value} (h : W.heap[B]? = some (.cells #[v] t (0, 0))) : W.cell? ⟨B, 0, none⟩ = some v := by simp [World.cell?, h]
theorem box_frozen {W : World} {B : Nat} {t : TypeId} {v : Value} (h : W.heap[B]? = some (.cells #[v] t (0, 0))) : W.frozen? ⟨B, 0, none⟩ = false := by simp [World.frozen?, h]
theorem box_set {W : World} {B : Nat} {t : TypeId} {v : Value} (v' : Value) (h : W.heap[B]? = some (.cells #[v] t (0, 0))) : (W.setCell ⟨B, 0, none⟩ v').heap[B]? = some (.cells #[v'] t (0, 0)) := by
  obtain ⟨hlt, hk⟩ := Array.getElem?_eq_some_iff.1 h
  show (W.heap.modify B _)[B]? = _
  rw [Array.getElem?_eq_getElem (by rw [Array.size_modify]; exact hlt), Array.getElem_modify_self, hk]
  rfl
theorem box_below {A B : World} {b : Nat} {o : Obj} (hB : Below A.heap.size A B) (h : A.heap[b]? = some o) : B.heap[b]? = some o := (hB.block b (Array.getElem?_eq_some_iff.1 h).1).trans h
theorem cell_below {A C : World} {a : Addr} {v : Value} (h : A.cell? a = some v) (hb : Below A.heap.size A C) : C.cell? a = some v := by
  have h2 := h
  unfold World.cell? at h ⊢
  cases hh : A.heap[a.block]? with
  | none => rw [hh] at h; cases h
  | some o =>
    rw [hb.block a.block (Array.getElem?_eq_some_iff.1 hh).1]
    exact h
theorem add_add' (b : Addr) (i j : Nat) : (b.add i).add j = b.add (i + j) := by
  unfold Addr.add
  by_cases hi : i = 0 <;> by_cases hj : j = 0 <;> simp [hi, hj, Nat.add_assoc]

/-- A slice of values of one cell, wherever it lies. -/
def RowAt {α : Type} (enc : α → Value) (W : World) (v : Value) (L : List α) : Prop :=
  ∃ a cap, v = .slice a L.length cap ∧ L.length ≤ cap ∧ cap ≤ maxLen ∧ ∀ (i : Nat) (h : i < L.length), ∃ b, a = some b ∧ W.cell? (b.add i) = some (enc L[i])
theorem RowAt.below {α : Type} {enc : α → Value} {A C : World} {v : Value} {L : List α} (h : RowAt enc A v L) (hb : Below A.heap.size A C) : RowAt enc C v L := by
  obtain ⟨a, cap, rfl, h1, h2, h⟩ := h
  exact ⟨a, cap, rfl, h1, h2, fun i hi => (h i hi).imp fun b hh => ⟨hh.1, cell_below hh.2 hb⟩⟩
end Go.Proofs.Ytplccefjljdjnaa
namespace Go.Proofs.Ytplccefjljdjnaa
open Go.ChangeShapes Go.WideShapes Go.ChangeAt Go.RowKit

theorem post_below {H : Type} {enc : TypeId × Value → H} {P : Program} {f : Func} {s : ChangeSpec} {apart fresh handsOn : Bool} {W W' : World} {args : Array Value} {v : Value} {ds gs : List (DataW H)} {before pa pv : List MemPlace}
    (hW : DataW.Whole enc P f.params.toList s.vars apart W args.toList ds gs before)
    (hres : ∀ (b : Nat) (sp : Nat → Bool) (hd : Bool), DataW.TrodAll enc P W' b sp hd f.resultTypes.toList (v.resultList f.resultTypes.size) (s.fn H (ds ++ gs)).results [])
    (hargs : DataW.TrodAll enc P W' 0 (fun b => decide (b < W.heap.size)) true f.params.toList args.toList (s.fn H (ds ++ gs)).args pa)
    (hvars : DataW.TrodVars enc P W' (fun b => decide (b < W.heap.size)) s.vars (s.fn H (ds ++ gs)).vars pv)
    (hps : before = pa ++ pv) (hb : Below W.heap.size W W') :
    s.post enc P f apart fresh handsOn false W args v W' := by
  refine ⟨ds, gs, before, [], pa, pv, hW, hres _ _ _, hargs, hvars, World.keptBut_mono (fun p hp => ⟨hp, ?_⟩) (hb.frame (· ∈ before)), fun h => by cases h⟩
  rw [hps, List.mem_append] at hp
  exact Or.inr hp
end Go.Proofs.Ytplccefjljdjnaa
namespace Go.Proofs.Ytplccefjljdjnaa
open Go.RowKit

theorem mk_run {P : Program} {t e : TypeId} {z : Value} {size bytes : Nat} (ht : P.underlying t = some (.slice e)) (hinfo : (P.info? e).map (fun i => (i.zero, i.size, i.bytes)) = some (some z, size, bytes)) (l c : Nat) (hlc : l ≤ c) (hb : bytes * c ≤ 281474976710656) (h63 : c ≤ 9223372036854775807) (w : World) :
    (Instr.makeSlice t (.int .i64 (l : Int)) (.int .i64 (c : Int))).run P w = .ok (.slice (some ⟨w.heap.size, 0, none⟩) l c) (w.alloc (.cells (madeCells z.cells (c * size)) e)) := by
  obtain ⟨i, hi, hzz⟩ := Option.map_eq_some_iff.1 hinfo
  simp only [Prod.mk.injEq] at hzz
  obtain ⟨hz, hs, hby⟩ := hzz
  have h := run_make (P := P) w t e i z ht hi hz .i64 .i64 (l : Int) (c : Int) (by omega) (by omega) (by rw [hby]; have : ((bytes * c : Nat) : Int) ≤ 281474976710656 := by omega
                                                                                                         rwa [Int.natCast_mul] at this) (by omega)
  simpa [hs] using h

/-- A row of one-cell elements that make has laid. -/
theorem madeCells_get {z : Value} {n i : Nat} (h : i < n) : (madeCells #[z] n)[i]? = some z := by simp [madeCells, h, Nat.mod_one]

/-- append of one element that has just been laid in a block of its own, with the whole frame. -/
theorem wp_app1G {α : Type} {P : Program} {ops : Array Oper} {rest : List Oper} {o : Oper} {a : Act} {Q : Exit → Act → World → Prop} {t e : TypeId} {size bytes : Nat} (hE : Elem P t e size bytes) {enc : α → List Value} (he : ∀ a, (enc a).length = size)
    (hgd : o.guard = none) (s x : Operand) (ho : o.op = .call { callee := .builtin .append, args := #[s, x], argTypes := #[t, t] })
    {B₀ : Nat} {w0 : World} {v : Value} {l : List α} (hs : a.eval s = v) (hS : SlA B₀ w0 e size enc v l) (y : α) {c : Nat} (hx : a.eval x = .slice (some ⟨w0.heap.size, 0, none⟩) 1 c) {cs : Array Value} (hcs : cs.toList = enc y) (h1 : ∀ u ∈ enc y, u.oneCell' = true)
    (hbytes : (l.length + 1) * bytes ≤ 140737488355328) (hbase : B₀ ≤ w0.heap.size)
    (h : ∀ v' w', SlA B₀ w' e size enc v' (l ++ [y]) → (w0.alloc (.cells cs e)).grownBy w' v.ownBlock → Below B₀ w0 w' → wpList P ops Q rest (a.put o.dst v') w') : wpList P ops Q (o :: rest) a (w0.alloc (.cells cs e)) := by
  obtain ⟨ht, i, z, hi, hz, hsz, hby, hzs, h0, hb0⟩ := hE
  have hnew : (w0.alloc (.cells cs e)).heap[w0.heap.size]? = some (.cells cs e) := by show (w0.heap.push _)[w0.heap.size]? = _; simp
  refine wpList_append_own _ hgd s x t ho B₀ e i z size bytes ht hi hz hsz hby hzs h0 v l.length (l.flatMap enc) hs (World.ownsRow.alloc hS _) ⟨w0.heap.size, 0, none⟩ 1 c (enc y) hx (by rw [he, Nat.one_mul]) ?_ h1 ?_ hbytes (by simp; omega) ?_
  · intro j u hu
    have e1 : (⟨w0.heap.size, 0, none⟩ : Addr).add j = ⟨w0.heap.size, j, none⟩ := by unfold Addr.add; split <;> simp_all
    rw [e1]
    rw [← hcs] at hu
    simp only [World.cell?, hnew]
    simpa using hu
  · have : (l.length + 1) * 1 ≤ (l.length + 1) * bytes := Nat.mul_le_mul_left _ hb0
    simp only [maxLen]; omega
  · intro v' w' hown hg _
    refine h v' w' (SlA.append (l2 := [y]) hown rfl rfl (by simp)) hg ?_
    refine ((Below.refl B₀ w0).alloc hbase _).grown hg (by simp; omega) ?_
    intro k hk
    rcases hS.2 with ⟨rfl, _⟩ | ⟨g, cap, cur, rfl, hb, _⟩
    · simp [Value.ownBlock] at hk
    · simp [Value.ownBlock] at hk; omega
end Go.Proofs.Ytplccefjljdjnaa
namespace Go.Proofs.Ytplccefjljdjnaa
open Go.RowKit
theorem wp_run_app {P : Program} {w w' : World} {ops : Array Oper} {rest : List Oper} {o : Oper} {a : Act} {Q : Exit → Act → World → Prop} {t : TypeId} {v v1 v2 : Value} (hgd : o.guard = none) (s x : Operand) (ho : o.op = .call { callee := .builtin .append, args := #[s, x], argTypes := #[t, t] })
    (h1 : a.eval s = v1) (h2 : a.eval x = v2) (hrun : (Builtin.append_ #[t, t] o.type #[v1, v2]).run P w = .ok v w') (hK : wpList P ops Q rest (a.put o.dst v) w') : wpList P ops Q (o :: rest) a w :=
  wpList_plain hgd fun _ hK' => by
    unfold Oper.wp execOp
    simp only [ho, resolve, invoke, builtin, Sem.run_bind, Sem.run_pure, Result.andThen_ok, List.map_toArray, List.map_cons, List.map_nil, h1, h2, hrun]
    exact hK' _ _ hK
end Go.Proofs.Ytplccefjljdjnaa
namespace Go.Proofs.Ytplccefjljdjnaa
open Go.RowKit Go.MapKept Go.ChangeMaps Go.WideMaps

section
variable {α : Type}
def getA (s : ByteArray) : List (ByteArray × α) → Option α
  | [] => none
  | p :: l => if p.1 = s then some p.2 else getA s l
def putA (s : ByteArray) (a : α) : List (ByteArray × α) → List (ByteArray × α)
  | [] => [(s, a)]
  | p :: l => if p.1 = s then (s, a) :: l else p :: putA s a l
theorem getA_none {s : ByteArray} : ∀ {l : List (ByteArray × α)}, (∀ p ∈ l, p.1 ≠ s) → getA s l = none
  | [], _ => rfl
  | p :: l, h => by rw [getA, if_neg (h p (List.mem_cons_self ..))]; exact getA_none fun q hq => h q (List.mem_cons_of_mem _ hq)
theorem getA_at {s : ByteArray} : ∀ {l : List (ByteArray × α)} {j : Nat} {a : α}, (l.map Prod.fst).Nodup → l[j]? = some (s, a) → getA s l = some a
  | p :: l, 0, a, _, h => by
    simp only [List.getElem?_cons_zero, Option.some.injEq] at h
    subst h
    rw [getA, if_pos rfl]
  | p :: l, j + 1, a, hn, h => by
    rw [List.getElem?_cons_succ] at h
    obtain ⟨h1, h2⟩ := List.nodup_cons.1 hn
    rw [getA, if_neg (fun e : p.1 = s => h1 (List.mem_map.2 ⟨_, List.mem_of_getElem? h, e.symm⟩))]
    exact getA_at h2 h
theorem putA_none {s : ByteArray} {a : α} : ∀ {l : List (ByteArray × α)}, (∀ p ∈ l, p.1 ≠ s) → putA s a l = l ++ [(s, a)]
  | [], _ => rfl
  | p :: l, h => by rw [putA, if_neg (h p (List.mem_cons_self ..)), putA_none fun q hq => h q (List.mem_cons_of_mem _ hq)]; rfl
theorem putA_at {s : ByteArray} {a : α} : ∀ {l : List (ByteArray × α)} {j : Nat} {b : α}, (l.map Prod.fst).Nodup → l[j]? = some (s, b) → putA s a l = l.set j (s, a)
  | p :: l, 0, b, _, h => by
    simp only [List.getElem?_cons_zero, Option.some.injEq] at h
    subst h
    rw [putA, if_pos rfl]; rfl
  | p :: l, j + 1, b, hn, h => by
    rw [List.getElem?_cons_succ] at h
    obtain ⟨h1, h2⟩ := List.nodup_cons.1 hn
    rw [putA, if_neg (fun e : p.1 = s => h1 (List.mem_map.2 ⟨_, List.mem_of_getElem? h, e.symm⟩)), putA_at h2 h]; rfl
theorem getA_mem {s : ByteArray} {a : α} : ∀ {l : List (ByteArray × α)}, getA s l = some a → (s, a) ∈ l
  | [], h => by cases h
  | p :: l, h => by
    rw [getA] at h
    by_cases e : p.1 = s
    · rw [if_pos e] at h; cases h; rw [← e]; exact List.mem_cons_self ..
    · rw [if_neg e] at h; exact List.mem_cons_of_mem _ (getA_mem h)
theorem getA_put {s t : ByteArray} {a : α} : ∀ {l : List (ByteArray × α)}, getA t (putA s a l) = if s = t then some a else getA t l
  | [] => by simp only [putA, getA]
  | p :: l => by
    rw [putA]
    by_cases e : p.1 = s
    · rw [if_pos e, getA]
      by_cases e2 : s = t
      · rw [if_pos e2, if_pos e2]
      · rw [if_neg e2, if_neg e2, getA, if_neg (fun x => e2 (e ▸ x))]
    · rw [if_neg e, getA, getA_put, getA]
      by_cases e2 : p.1 = t
      · rw [if_pos e2, if_neg (fun x => e (e2.trans x.symm)), if_pos e2]
      · rw [if_neg e2, if_neg e2]
theorem putA_length {s : ByteArray} {a : α} : ∀ {l : List (ByteArray × α)}, l.length ≤ (putA s a l).length ∧ (putA s a l).length ≤ l.length + 1
  | [] => by simp [putA]
  | p :: l => by
    rw [putA]
    have := putA_length (s := s) (a := a) (l := l)
    split <;> simp <;> omega

/-- How an entry reads. -/
def ent (ev : α → Value) (p : ByteArray × α) : Value × Value := (.string p.1, ev p.2)
/-- Block b is a map keyed by strings that holds l. -/
def MapAt (ev : α → Value) (w : World) (b : Nat) (l : List (ByteArray × α)) : Prop :=
  ∃ es clock, w.heap[b]? = some (.map es clock) ∧ Stamped es clock ∧ es.toList.map (fun e => (e.key, e.val)) = l.map (ent ev) ∧ ∀ p ∈ l, p.1.size ≤ maxLen

variable {ev : α → Value} {w : World} {b : Nat} {l : List (ByteArray × α)}
theorem MapAt.lt (h : MapAt ev w b l) : b < w.heap.size := by obtain ⟨es, c, h, -⟩ := h; exact (Array.getElem?_eq_some_iff.1 h).1
theorem MapAt.of_block {w' : World} (h : MapAt ev w b l) (hb : w'.heap[b]? = w.heap[b]?) : MapAt ev w' b l := by
  obtain ⟨es, c, h1, h2⟩ := h
  exact ⟨es, c, hb.trans h1, h2⟩
theorem MapAt.below {w' : World} (h : MapAt ev w b l) (hb : Below w.heap.size w w') : MapAt ev w' b l := h.of_block (hb.block b h.lt)
theorem MapAt.made (ev : α → Value) (w : World) : MapAt ev (w.alloc (.map #[] 0)) w.heap.size [] :=
  ⟨#[], 0, by show (w.heap.push _)[w.heap.size]? = _; simp, stamped_empty 0, by simp, by simp⟩
theorem MapAt.nodup (h : MapAt ev w b l) : (l.map Prod.fst).Nodup := by
  obtain ⟨es, c, -, h2, h3, -⟩ := h
  have h4 := ((stamped_iff es c).1 h2).2.2
  have h5 : (es.toList.map (fun e => (e.key, e.val))).Pairwise (fun x y => x.1 ≠ y.1) := List.pairwise_map.2 h4
  rw [h3] at h5
  have h6 := List.pairwise_map.1 h5
  refine List.pairwise_map.2 (h6.imp fun {x y} h e => h ?_)
  simp only [ent]; rw [e]
theorem MapAt.size (h : MapAt ev w b l) : ∃ es c, w.heap[b]? = some (.map es c) ∧ es.size = l.length := by
  obtain ⟨es, c, h1, -, h3, -⟩ := h
  refine ⟨es, c, h1, ?_⟩
  have := congrArg List.length h3
  simpa using this

variable {P : Program} {k e t : TypeId}
theorem MapAt.reads (hk : P.underlying k = some .string) {es : Array MapEntry} (h3 : es.toList.map (fun e => (e.key, e.val)) = l.map (ent ev)) (h4 : ∀ p ∈ l, p.1.size ≤ maxLen) : ∀ x ∈ es.toList, ∃ lx, keyOf P k x.key = some lx := by
  intro x hx
  have : (x.key, x.val) ∈ l.map (ent ev) := by rw [← h3]; exact List.mem_map.2 ⟨x, hx, rfl⟩
  obtain ⟨p, hp, e⟩ := List.mem_map.1 this
  simp only [ent, Prod.mk.injEq] at e
  rw [← e.1]
  exact ⟨_, keyOf_string_mk hk (h4 p hp)⟩
theorem MapAt.spot {es : Array MapEntry} (h3 : es.toList.map (fun e => (e.key, e.val)) = l.map (ent ev)) {j : Nat} {x : MapEntry} (h : es.toList[j]? = some x) {s : ByteArray} (hs : x.key = .string s) : ∃ a, l[j]? = some (s, a) ∧ x.val = ev a := by
  have h5 : (l.map (ent ev))[j]? = some (x.key, x.val) := by rw [← h3, List.getElem?_map, h]; rfl
  rw [List.getElem?_map] at h5
  obtain ⟨p, hp, e⟩ := Option.map_eq_some_iff.1 h5
  simp only [ent, Prod.mk.injEq] at e
  rw [hs] at e
  have e1 : p.1 = s := by have := e.1; cases this; rfl
  exact ⟨p.2, by rw [hp, ← e1], e.2.symm⟩
theorem MapAt.none_of {es : Array MapEntry} (h3 : es.toList.map (fun e => (e.key, e.val)) = l.map (ent ev)) {s : ByteArray} (h : ∀ x ∈ es.toList, x.key ≠ .string s) : ∀ p ∈ l, p.1 ≠ s := by
  intro p hp e
  have : ent ev p ∈ es.toList.map (fun e => (e.key, e.val)) := by rw [h3]; exact List.mem_map.2 ⟨p, hp, rfl⟩
  obtain ⟨x, hx, e2⟩ := List.mem_map.1 this
  simp only [ent, Prod.mk.injEq] at e2
  exact h x hx (by rw [e2.1, e])

/-- 'm[k]' and 'v, ok := m[k]'. -/
theorem MapAt.look (c : Bool) (h : MapAt ev w b l) (hk : P.underlying k = some .string) (ht : P.underlying t = some (.map k e)) {z : Value} (hz : (zeroValue e).run P w = .ok z w) {s : ByteArray} (hs : s.size ≤ maxLen) :
    (Instr.lookup t (.map (some b)) (.string s) c).run P w = .ok (match getA s l with | some a => if c then .tuple #[ev a, .bool true] else ev a | none => if c then .tuple #[z, .bool false] else z) w := by
  have hn := h.nodup
  obtain ⟨es, clock, hb, h2, h3, h4⟩ := h
  have K := Maps.string_keyed hk
  have hkey := keyOf_string_mk hk hs
  rcases K.find w hkey es.toList (MapAt.reads hk h3 h4) with ⟨h5, h6⟩ | ⟨j, e0, h5, h6, h7⟩
  · rw [getA_none (MapAt.none_of h3 h6)]
    simp [Instr.lookup, run_underlying ht, MapKept.run_getObj_map hb, K.check w _ hkey, h5, hz, Result.andThen]
  · obtain ⟨a, h8, h9⟩ := MapAt.spot h3 h6 h7
    rw [getA_at hn h8]
    simp [Instr.lookup, run_underlying ht, MapKept.run_getObj_map hb, K.check w _ hkey, h5, h9, Result.andThen]

/-- 'm[k] = v'. -/
theorem MapAt.put (h : MapAt ev w b l) (hk : P.underlying k = some .string) (ht : P.underlying t = some (.map k e)) (hroom : l.length < maxLen) {s : ByteArray} (hs : s.size ≤ maxLen) (a : α) :
    ∃ w', (Instr.mapUpdate t (.map (some b)) (.string s) (ev a)).run P w = .ok () w' ∧ MapAt ev w' b (putA s a l) ∧ w.grownBy w' (some b) ∧ w'.heap.size = w.heap.size := by
  have hn := h.nodup
  obtain ⟨es, clock, hb, h2, h3, h4⟩ := h
  have K := Maps.string_keyed hk
  have hkey := keyOf_string_mk hk hs
  have hsz : es.size = l.length := by have := congrArg List.length h3; simpa using this
  have grow : ∀ o, w.grownBy (setBlock w b o) (some b) := fun o => ⟨rfl, rfl, rfl, by simp [setBlock], fun i _ hi => heap_setBlock_other hb _ (fun e => hi (by rw [e]))⟩
  have h10 : ∀ p ∈ putA s a l, p.1.size ≤ maxLen := by
    have : ∀ {l : List (ByteArray × α)}, (∀ p ∈ l, p.1.size ≤ maxLen) → ∀ p ∈ putA s a l, p.1.size ≤ maxLen := by
      intro l
      induction l with
      | nil => intro _ p hp; simp only [putA, List.mem_singleton] at hp; subst hp; exact hs
      | cons q l ih =>
        intro h p hp
        rw [putA] at hp
        split at hp
        · rcases List.mem_cons.1 hp with rfl | hp
          · exact hs
          · exact h p (List.mem_cons_of_mem _ hp)
        · rcases List.mem_cons.1 hp with rfl | hp
          · exact h _ (List.mem_cons_self ..)
          · exact ih (fun q hq => h q (List.mem_cons_of_mem _ hq)) p hp
    exact this h4
  rcases K.find w hkey es.toList (MapAt.reads hk h3 h4) with ⟨h5, h6⟩ | ⟨j, e0, h5, h6, h7⟩
  · refine ⟨setBlock w b (.map (es.push ⟨.string s, ev a, clock⟩) (clock + 1)), ?_, ⟨_, _, heap_setBlock_same hb _, stamped_push h2 h6, ?_, h10⟩, grow _, by simp [setBlock]⟩
    · have : es.size < maxLen := by omega
      simp [Instr.mapUpdate, run_underlying ht, MapKept.run_getObj_map hb, K.check w false hkey, h5, MapKept.run_setObj_map _ hb, Result.andThen, setBlock]
    · rw [putA_none (MapAt.none_of h3 h6), Array.toList_push, List.map_append, h3, List.map_append]
      simp [ent]
  · obtain ⟨a0, h8, h9⟩ := MapAt.spot h3 h6 h7
    have hj : es[j]? = some e0 := by simpa using h6
    have hkeyf : ∀ e', es[j]? = some e' → ({ e' with key := .string s, val := ev a } : MapEntry).key = e'.key := fun e' he' => by rw [hj] at he'; cases he'; exact h7.symm
    have hlist : (es.modify j (fun e' => { e' with key := .string s, val := ev a })).toList = es.toList.set j { e0 with key := .string s, val := ev a } := by rw [Array.toList_modify, modify_eq_set _ _ _ _ h6]
    refine ⟨setBlock w b (.map (es.modify j (fun e' => { e' with key := .string s, val := ev a })) clock), ?_, ⟨_, _, heap_setBlock_same hb _, stamped_modify h2 _ _ (fun _ _ => rfl) (fun e' _ he' => hkeyf e' he'), ?_, h10⟩, grow _, by simp [setBlock]⟩
    · simp [Instr.mapUpdate, run_underlying ht, MapKept.run_getObj_map hb, K.check w false hkey, h5, hj, h7, K.stays w hkey, MapKept.run_setObj_map _ hb, Result.andThen, setBlock]
    · rw [hlist, List.map_set, h3, putA_at hn h8, List.map_set]
      rfl

/-- 'len(m)'. -/
theorem MapAt.len (h : MapAt ev w b l) {ty : TypeId} (ht : P.underlying t = some (.map k e)) : (Builtin.len_ #[t] ty #[.map (some b)]).run P w = .ok (.int .i64 l.length) w := by
  obtain ⟨es, c, hb, hs⟩ := h.size
  simp [Builtin.len_, run_underlying ht, MapKept.run_getObj_map hb, Result.andThen, hs, goInt]

/-- Block r is an iterator over the map in block b, to which left is still to come (in whatever order). -/
def RangeAt (ev : α → Value) (w : World) (b r : Nat) (l left : List (ByteArray × α)) : Prop :=
  ∃ es clock since seen c0, w.heap[b]? = some (.map es clock) ∧ Stamped es clock ∧ es.toList.map (fun e => (e.key, e.val)) = l.map (ent ev) ∧ (∀ p ∈ l, p.1.size ≤ maxLen) ∧
    w.heap[r]? = some (.mapIter (some b) since seen c0) ∧ (∀ x ∈ es.toList, x.born < since) ∧ since ≤ c0 ∧ c0 ≤ clock ∧ (leftOf es seen).toList.map (fun e => (e.key, e.val)) = left.map (ent ev) ∧ ∀ p ∈ left, p ∈ l
theorem RangeAt.map {r : Nat} {left : List (ByteArray × α)} (h : RangeAt ev w b r l left) : MapAt ev w b l := by
  obtain ⟨es, clock, since, seen, c0, h1, h2, h3, h4, -⟩ := h
  exact ⟨es, clock, h1, h2, h3, h4⟩
theorem RangeAt.of_blocks {w' : World} {r : Nat} {left : List (ByteArray × α)} (h : RangeAt ev w b r l left) (h1 : w'.heap[b]? = w.heap[b]?) (h2 : w'.heap[r]? = w.heap[r]?) : RangeAt ev w' b r l left := by
  obtain ⟨es, clock, since, seen, c0, e1, e2, e3, e4, e5, e6⟩ := h
  exact ⟨es, clock, since, seen, c0, h1.trans e1, e2, e3, e4, h2.trans e5, e6⟩
/-- 'range m' ahead of the loop. -/
theorem MapAt.range (h : MapAt ev w b l) (ht : P.underlying t = some (.map k e)) :
    ∃ c, (Instr.range t (.map (some b))).run P w = .ok (.pointer (some ⟨w.heap.size, 0, none⟩)) (w.alloc (.mapIter (some b) c #[] c)) ∧ RangeAt ev (w.alloc (.mapIter (some b) c #[] c)) b w.heap.size l l := by
  have hlt := h.lt
  obtain ⟨es, c, h1, h2, h3, h4⟩ := h
  refine ⟨c, run_range_map w t k e b es c ht h1, es, c, c, #[], c, ?_, h2, h3, h4, ?_, ((stamped_iff es c).1 h2).1, Nat.le_refl _, Nat.le_refl _, ?_⟩
  · rw [Below.heap_alloc _ _ _ hlt]; exact h1
  · exact heap_alloc_new _ _
  · rw [← h3]
    have : leftOf es #[] = es := by unfold leftOf; exact Array.filter_eq_self.2 (fun x _ => by simp)
    rw [this]
    exact ⟨rfl, fun p hp => hp⟩

theorem setBlock_same {w : World} {r : Nat} (o : Obj) (h : r < w.heap.size) : (setBlock w r o).heap[r]? = some o := by
  show (w.heap.setIfInBounds r o)[r]? = _
  simp [h]
theorem setBlock_other {w : World} {r i : Nat} (o : Obj) (h : i ≠ r) : (setBlock w r o).heap[i]? = w.heap[i]? := by
  show (w.heap.setIfInBounds r o)[i]? = _
  rw [Array.getElem?_setIfInBounds_ne (Ne.symm h)]
theorem drop_one {L : List MapEntry} (hn : (L.map (·.born)).Nodup) {j : Nat} {x : MapEntry} (hj : L[j]? = some x) : L.filter (fun y => !(y.born == x.born)) = L.eraseIdx j := by
  induction L generalizing j with
  | nil => simp at hj
  | cons y L ih =>
    obtain ⟨h1, h2⟩ := List.nodup_cons.1 hn
    cases j with
    | zero =>
      simp only [List.getElem?_cons_zero, Option.some.injEq] at hj
      subst hj
      rw [List.filter_cons_of_neg (by simp), List.eraseIdx_cons_zero]
      refine List.filter_eq_self.2 fun z hz => ?_
      have : z.born ≠ y.born := fun e => h1 (List.mem_map.2 ⟨z, hz, e⟩)
      simpa using this
    | succ j =>
      rw [List.getElem?_cons_succ] at hj
      have : y.born ≠ x.born := fun e => h1 (List.mem_map.2 ⟨x, List.mem_of_getElem? hj, e.symm⟩)
      rw [List.filter_cons_of_pos (by simpa using this), List.eraseIdx_cons_succ, ih h2 hj]
theorem leftOf_push (es : Array MapEntry) (seen : Array Nat) (n : Nat) : (leftOf es (seen.push n)).toList = (leftOf es seen).toList.filter fun y => !(y.born == n) := by
  unfold leftOf
  rw [Array.toList_filter, Array.toList_filter, List.filter_filter]
  refine List.filter_congr fun y _ => ?_
  rw [Array.contains_push]
  cases seen.contains y.born <;> cases h : y.born == n <;> simp_all
theorem leftOf_nodup {es : Array MapEntry} {clock : Nat} (h : Stamped es clock) (seen : Array Nat) : ((leftOf es seen).toList.map (·.born)).Nodup := by
  unfold leftOf
  rw [Array.toList_filter]
  exact (((stamped_iff es clock).1 h).2.1).sublist (List.filter_sublist.map _)

/-- The step, and the round's key and value. -/
theorem RangeAt.next {r : Nat} {left : List (ByteArray × α)} (ty : TypeId) (h : RangeAt ev w b r l left) (hbr : b ≠ r) :
    (left = [] ∧ (Instr.next (.pointer (some ⟨r, 0, none⟩)) false ty).run P w = .ok (.tuple #[.bool false]) w) ∨
    ∃ p left' w', (p :: left').Perm left ∧ p ∈ l ∧ (Instr.next (.pointer (some ⟨r, 0, none⟩)) false ty).run P w = .ok (.tuple #[.bool true, .string p.1, ev p.2]) w' ∧ (Instr.entry (.pointer (some ⟨r, 0, none⟩))).run P w' = .ok (.tuple #[.string p.1, ev p.2]) w' ∧ RangeAt ev w' b r l left' ∧ w.grownBy w' (some r) ∧ w'.heap.size = w.heap.size := by
  obtain ⟨es, clock, since, seen, c0, e1, e2, e3, e4, e5, e6, e7, e8, e9, e10⟩ := h
  have hst := (stamped_iff es clock).1 e2
  rcases run_next_at (P := P) w ty r b since c0 seen es clock e5 e1 e6 e7 with ⟨h0, hrun⟩ | ⟨x, hx, w1, hw1, hrun⟩
  · left
    refine ⟨?_, hrun⟩
    have : (leftOf es seen).toList = [] := by
      have : (leftOf es seen) = #[] := Array.eq_empty_of_size_eq_zero h0
      rw [this]
    rw [this] at e9
    simpa using e9.symm
  · right
    obtain ⟨j, hj, hjx⟩ := List.getElem_of_mem hx
    have hj? : (leftOf es seen).toList[j]? = some x := by rw [List.getElem?_eq_getElem hj, hjx]
    have h5 : (left.map (ent ev))[j]? = some (x.key, x.val) := by rw [← e9, List.getElem?_map, hj?]; rfl
    rw [List.getElem?_map] at h5
    obtain ⟨p, hp, ep⟩ := Option.map_eq_some_iff.1 h5
    simp only [ent, Prod.mk.injEq] at ep
    have hlt : j < left.length := (List.getElem?_eq_some_iff.1 hp).1
    have hpj : left[j] = p := (List.getElem?_eq_some_iff.1 hp).2
    have hxm : x ∈ es.toList := by
      have : x ∈ (leftOf es seen) := by simpa using hx
      unfold leftOf at this
      have := (Array.mem_filter.1 this).1
      simpa using this
    have hpm : p ∈ left := List.mem_of_getElem? hp
    have hr1 : w1.heap[r]? = some (.mapIter (some b) since seen c0) := by rcases hw1 with rfl | rfl <;> exact e5
    have hb1 : w1.heap[b]? = some (.map es clock) := by rcases hw1 with rfl | rfl <;> exact e1
    have hrl : r < w1.heap.size := (Array.getElem?_eq_some_iff.1 hr1).1
    have hb2 := (setBlock_other (.mapIter (some b) since (seen.push x.born) clock) hbr).trans hb1
    have hr2 := setBlock_same (.mapIter (some b) since (seen.push x.born) clock) hrl
    have hent := run_entry_at (P := P) _ r b since seen es clock x hr2 hb2 hxm hst.2.1
    have hlo : (leftOf es (seen.push x.born)).toList = (leftOf es seen).toList.eraseIdx j := by rw [leftOf_push, drop_one (leftOf_nodup e2 seen) hj?]
    refine ⟨p, left.eraseIdx j, _, ?_, e10 p hpm, ?_, ?_, ⟨es, clock, since, seen.push x.born, clock, hb2, e2, e3, e4, hr2, e6, Nat.le_trans e7 e8, Nat.le_refl _, ?_, fun q hq => e10 q (List.mem_of_mem_eraseIdx hq)⟩, ?_, ?_⟩
    · have h1 := set_perm left j hlt p
      have h2 : left.set j p = left := by rw [← hpj]; exact List.set_getElem_self ..
      rw [h2] at h1
      exact h1.symm
    · rw [hrun, ep.1, ep.2]
    · rw [hent, ep.1, ep.2]
    · rw [hlo, map_eraseIdx, e9, map_eraseIdx]
    · rcases hw1 with rfl | rfl <;> exact ⟨rfl, rfl, rfl, by simp [setBlock], fun i _ hi => setBlock_other _ (fun e => hi (by rw [e]))⟩
    · rcases hw1 with rfl | rfl <;> simp [setBlock]
end
end Go.Proofs.Ytplccefjljdjnaa
namespace Go.Proofs.Ytplccefjljdjnaa
open Go.RowKit
section
variable {F : Fence} {n : Nat} {P : Program} {ops : Array Oper} {Q : Exit → Act → World → Prop} {S : World → Prop}

/-- All sublists. -/
def subs : List Nat → List (List Nat)
  | [] => [[]]
  | x :: xs => subs xs ++ (subs xs).map (x :: ·)
theorem filter_subs (p : Nat → Bool) : ∀ l : List Nat, l.filter p ∈ subs l
  | [] => by simp [subs]
  | x :: xs => by
    have h := filter_subs p xs
    simp only [subs, List.mem_append, List.mem_map]
    cases hp : p x with
    | true => right; exact ⟨_, h, by simp [List.filter_cons, hp]⟩
    | false => left; simpa [List.filter_cons, hp] using h
def mark (listed : Array Bool) (s : List Nat) : Array Bool := s.foldl (fun l i => l.setIfInBounds i true) listed
theorem mark_size : ∀ (s : List Nat) (l : Array Bool), (mark l s).size = l.size
  | [], _ => rfl
  | x :: s, l => by
    show (mark (l.setIfInBounds x true) s).size = _
    rw [mark_size s, Array.size_setIfInBounds]
theorem mark_get : ∀ (s : List Nat) (l : Array Bool) (i : Nat), (mark l s)[i]? = if i ∈ s ∧ i < l.size then some true else l[i]?
  | [], l, i => by simp [mark]
  | x :: s, l, i => by
    show (mark (l.setIfInBounds x true) s)[i]? = _
    rw [mark_get s, Array.size_setIfInBounds]
    by_cases hs : i ∈ s ∧ i < l.size
    · rw [if_pos hs, if_pos ⟨List.mem_cons_of_mem _ hs.1, hs.2⟩]
    · rw [if_neg hs]
      by_cases hx : x = i
      · subst hx
        by_cases hl : x < l.size
        · rw [Array.getElem?_setIfInBounds_self_of_lt hl, if_pos ⟨List.mem_cons_self .., hl⟩]
        · rw [if_neg (fun h => hl h.2), Array.getElem?_eq_none (by rw [Array.size_setIfInBounds]; omega), Array.getElem?_eq_none (by omega)]
      · rw [Array.getElem?_setIfInBounds_ne hx]
        rw [if_neg]
        rintro ⟨h1, h2⟩
        rcases List.mem_cons.1 h1 with e | e
        · exact hx e.symm
        · exact hs ⟨e, h2⟩
/-- One more of js is marked. -/
theorem mark_step (l : Array Bool) (js : List Nat) (p : Nat → Bool) (i : Nat) (hi : i ∈ js) : (mark l (js.filter p)).setIfInBounds i true = mark l (js.filter fun x => p x || x == i) := by
  apply Array.ext_getElem?
  intro t
  rw [mark_get]
  by_cases ht : i = t
  · subst ht
    by_cases hl : i < l.size
    · rw [Array.getElem?_setIfInBounds_self_of_lt (by rw [mark_size]; exact hl), if_pos]
      exact ⟨by simp [List.mem_filter, hi], hl⟩
    · rw [Array.getElem?_eq_none (by rw [Array.size_setIfInBounds, mark_size]; omega), if_neg (fun h => hl h.2), Array.getElem?_eq_none (by omega)]
  · rw [Array.getElem?_setIfInBounds_ne ht, mark_get]
    have : (t ∈ js.filter fun x => p x || x == i) ↔ t ∈ js.filter p := by
      simp only [List.mem_filter, Bool.or_eq_true, beq_iff_eq]
      constructor
      · rintro ⟨h1, h2 | h2⟩
        · exact ⟨h1, h2⟩
        · exact absurd h2.symm ht
      · rintro ⟨h1, h2⟩; exact ⟨h1, .inl h2⟩
    simp only [this]
theorem filter_more {p : Nat → Bool} {i : Nat} : ∀ {js : List Nat}, i ∈ js → p i = false → (js.filter p).length + 1 ≤ (js.filter fun x => p x || x == i).length
  | x :: js, hi, hp => by
    have hle : ∀ l : List Nat, (l.filter p).length ≤ (l.filter fun x => p x || x == i).length := fun l => by
      induction l with
      | nil => simp
      | cons a l ih =>
        cases ha : p a with
        | true => simp only [List.filter_cons, ha, Bool.true_or, if_true, List.length_cons]; omega
        | false =>
          simp only [List.filter_cons, ha, Bool.false_or, Bool.false_eq_true, if_false]
          split
          · rw [List.length_cons]; omega
          · exact ih
    rcases List.mem_cons.1 hi with rfl | h
    · simp only [List.filter_cons, hp, Bool.false_or, beq_self_eq_true, if_true]
      have := hle js
      simp only [Bool.false_eq_true, if_false, List.length_cons]
      omega
    · have ih := filter_more h hp
      cases ha : p x with
      | true => simp only [List.filter_cons, ha, Bool.true_or, if_true, List.length_cons]; omega
      | false =>
        simp only [List.filter_cons, ha, Bool.false_or, Bool.false_eq_true, if_false]
        split
        · rw [List.length_cons]; omega
        · exact ih

def dstOf (ops : Array Oper) (j : Nat) : Option Tmp := (ops[j]?).bind (·.dst)
def putAll (ops : Array Oper) (vs : Nat → Value) (a : Act) (s : List Nat) : Act := s.foldl (fun a j => a.put (dstOf ops j) (vs j)) a
theorem put_size (a : Act) (d : Option Tmp) (v : Value) : (a.put d v).tmps.size = a.tmps.size := by cases d <;> simp [Act.put]
theorem put_defers (a : Act) (d : Option Tmp) (v : Value) : (a.put d v).defers = a.defers := by cases d <;> rfl
theorem put_get_ne (a : Act) (d : Option Tmp) (v : Value) {t : Tmp} (h : d ≠ some t) : (a.put d v).tmps[t]? = a.tmps[t]? := by
  cases d with
  | none => rfl
  | some d => simp only [Act.put]; exact Array.getElem?_setIfInBounds_ne (fun e => h (by rw [e]))
theorem put_get_eq (a : Act) {d : Tmp} (v : Value) (h : d < a.tmps.size) : (a.put (some d) v).tmps[d]? = some v := by
  simp only [Act.put]; exact Array.getElem?_setIfInBounds_self_of_lt h
theorem putAll_size (vs : Nat → Value) : ∀ (s : List Nat) (a : Act), (putAll ops vs a s).tmps.size = a.tmps.size
  | [], _ => rfl
  | x :: s, a => by show (putAll ops vs (a.put (dstOf ops x) (vs x)) s).tmps.size = _; rw [putAll_size vs s, put_size]
theorem putAll_defers (vs : Nat → Value) : ∀ (s : List Nat) (a : Act), (putAll ops vs a s).defers = a.defers
  | [], _ => rfl
  | x :: s, a => by show (putAll ops vs (a.put (dstOf ops x) (vs x)) s).defers = _; rw [putAll_defers vs s, put_defers]
theorem putAll_ne (vs : Nat → Value) {t : Tmp} : ∀ (s : List Nat) (a : Act), (∀ j ∈ s, dstOf ops j ≠ some t) → (putAll ops vs a s).tmps[t]? = a.tmps[t]?
  | [], _, _ => rfl
  | x :: s, a, h => by
    show (putAll ops vs (a.put (dstOf ops x) (vs x)) s).tmps[t]? = _
    rw [putAll_ne vs s _ (fun j hj => h j (List.mem_cons_of_mem _ hj)), put_get_ne _ _ _ (h x (List.mem_cons_self ..))]
theorem putAll_eq (vs : Nat → Value) {t : Tmp} {j : Nat} : ∀ (s : List Nat) (a : Act), (∀ i ∈ s, dstOf ops i = some t → i = j) → j ∈ s → dstOf ops j = some t → t < a.tmps.size → (putAll ops vs a s).tmps[t]? = some (vs j)
  | x :: s, a, hd, hj, hdj, ht => by
    show (putAll ops vs (a.put (dstOf ops x) (vs x)) s).tmps[t]? = _
    by_cases hs : j ∈ s
    · exact putAll_eq vs s _ (fun i hi => hd i (List.mem_cons_of_mem _ hi)) hs hdj (by rw [put_size]; exact ht)
    · obtain rfl : j = x := by rcases List.mem_cons.1 hj with e | e; exact e; exact absurd e hs
      rw [putAll_ne vs s _ (fun i hi e => hs ((hd i (List.mem_cons_of_mem _ hi) e) ▸ hi)), hdj]
      exact put_get_eq _ _ ht

/-- What of js operation j waits for. -/
def deps (ops : Array Oper) (js : List Nat) (j : Nat) : List Nat := js.filter fun i => anc ops ops.size j i
def looksOk (ops : Array Oper) (js : List Nat) (j : Nat) : Bool := match ops[j]? with
  | none => false
  | some o => (o.looksAt ops).all fun t => js.all fun i => dstOf ops i != some t || (deps ops js j).contains i
def floatOk (ops : Array Oper) (listed : Array Bool) (js : List Nat) (m sz : Nat) : Bool :=
  noDefer ops && Region.noSelect ops &&
  (js.all fun j => looksOk ops js j && (match dstOf ops j with | some d => decide (d < sz) | none => false)) &&
  (js.all fun i => js.all fun j => i == j || dstOf ops i != dstOf ops j) &&
  (subs js).all fun s => !(s.all fun j => (deps ops js j).all s.contains) || if s.length == js.length then lineB ops (ops.size - m) (mark listed s) m && (ops.size == m || bar ops (mark listed s) m)
    else (Region.ready .any ops (mark listed s) != []) && (Region.ready .any ops (mark listed s)).all fun i => js.contains i && !s.contains i && (deps ops js i).all s.contains

/-- One operation, carried out where only what it waits for is known. -/
def StepIn (F : Fence) (n : Nat) (P : Program) (ops : Array Oper) (j : Nat) (K : Act → World → Prop) (a : Act) (w : World) : Prop :=
  ∃ o, ops[j]? = some o ∧ (if Region.wanted o (yielded ops a.tmps) then o.uponIn F n P a K (fun _ _ _ => False) ((execOp a.eval o).run P w) else K (a.put o.dst undef) w)

theorem upon_move {o : Oper} {a b : Act} {d : Tmp} (hd : o.dst = some d) (ha : d < a.tmps.size) {G : Value → World → Prop} {K : Act → World → Prop} (hK : ∀ v w, G v w → K (b.put (some d) v) w) {r : Result Next}
    (h : o.uponIn F n P a (fun x w => ∃ v, x.tmps[d]? = some v ∧ x.defers = a.defers ∧ G v w) (fun _ _ _ => False) r) : o.uponIn F n P b K Q r := by
  have hv : ∀ {v u : Value}, (a.put (some d) v).tmps[d]? = some u → v = u := fun e => by rw [put_get_eq a _ ha] at e; exact Option.some.inj e
  cases r with
  | ok nx w' =>
    cases nx with
    | value v =>
      rw [Oper.uponIn_value, hd] at h ⊢
      obtain ⟨u, h1, -, h2⟩ := h
      rw [hv h1]; exact hK _ _ h2
    | skip =>
      rw [Oper.uponIn_skip, hd] at h ⊢
      obtain ⟨u, h1, -, h2⟩ := h
      rw [hv h1]; exact hK _ _ h2
    | defer dd =>
      rw [Oper.uponIn_defer, hd] at h
      obtain ⟨u, -, h1, -⟩ := h
      exfalso
      have := congrArg List.length h1
      simp [Act.put] at this
    | enter f args =>
      rw [Oper.uponIn_enter] at h ⊢
      refine ⟨h.1, h.2.mono ?_⟩
      intro e w'' hx
      cases e with
      | returned v =>
        obtain ⟨u, h1, -, h2⟩ := (show ∃ v_1, (a.put o.dst v).tmps[d]? = some v_1 ∧ _ ∧ _ from hx)
        rw [hd] at h1
        show K (b.put o.dst v) w''
        rw [hd, hv h1]; exact hK _ _ h2
      | panicked c => exact hx.elim
      | outgrown => exact (show LetsOut (fun _ _ _ => False) from hx).elim fun _ hx => hx.elim fun _ hx => hx.elim
    | row rw' args =>
      rw [Oper.uponIn_row] at h ⊢
      refine ⟨h.1, h.2.mono ?_⟩
      intro v w'' hx
      obtain ⟨u, h1, -, h2⟩ := hx
      rw [hd] at h1 ⊢
      rw [hv h1]; exact hK _ _ h2
    | round l f tmps as_ body =>
      rw [Oper.uponIn_round] at h ⊢
      refine ⟨h.1, h.2.mono ?_⟩
      intro e w'' hx
      cases e with
      | returned v =>
        obtain ⟨u, h1, -, h2⟩ := (show ∃ v_1, (a.put o.dst v).tmps[d]? = some v_1 ∧ _ ∧ _ from hx)
        rw [hd] at h1
        show K (b.put o.dst v) w''
        rw [hd, hv h1]; exact hK _ _ h2
      | panicked c => exact hx.elim
      | outgrown => exact (show LetsOut (fun _ _ _ => False) from hx).elim fun _ hx => hx.elim fun _ hx => hx.elim
    | _ => exact h.elim
  | halt hl w' =>
    cases hl with
    | panic v => exact (show False from h).elim
    | _ => exact h.elim

theorem line_any' : ∀ (k0 k m : Nat) {listed : Array Bool} {a : Act} {w : World}, k0 ≤ k → lineB ops k0 listed m = true → wpListIn F n P ops Q (ops.toList.drop m) a w → wpAnyIn F n P .any ops Q k listed a w
  | 0, k, m, listed, a, w, _, hl, h => by
    simp only [lineB, Bool.and_eq_true, beq_iff_eq] at hl
    obtain ⟨rfl, hr⟩ := hl
    rw [List.drop_of_length_le (by simp)] at h
    cases k with
    | zero => exact ⟨hr, h⟩
    | succ k => exact ⟨fun _ => h, fun i hi => by rw [hr] at hi; cases hi⟩
  | k0 + 1, 0, m, listed, a, w, hk, _, _ => absurd hk (by omega)
  | k0 + 1, k + 1, m, listed, a, w, hk, hl, h => by
    simp only [lineB, Bool.and_eq_true, beq_iff_eq, decide_eq_true_eq] at hl
    obtain ⟨⟨hr, hm⟩, hl⟩ := hl
    refine ⟨fun e => (by rw [hr] at e; cases e), fun i hi => ?_⟩
    rw [hr] at hi
    obtain rfl : i = m := by simpa using hi
    have hd : ops.toList.drop i = ops[i] :: ops.toList.drop (i + 1) := by
      rw [List.drop_eq_getElem_cons (by simpa using hm)]; simp
    rw [hd] at h
    unfold wpOpIn
    rw [Array.getElem?_eq_getElem hm]
    simp only [wpListIn] at h
    show if Region.wanted ops[i] (yielded ops a.tmps) = true then _ else _
    split
    · rename_i hw
      rw [if_pos hw] at h
      exact Oper.wpIn_mono (fun _ _ => line_any' k0 k (i + 1) (by omega) hl) h
    · rename_i hw
      rw [if_neg hw] at h
      exact ⟨h.1, line_any' k0 k (i + 1) (by omega) hl h.2⟩

theorem line_anyH {k0 k m : Nat} {listed : Array Bool} {a : Act} {w : World} (hk : k0 ≤ k) (hl : lineB ops k0 listed m = true) (hb : (ops.size == m || bar ops listed m) = true) (h : wpListIn F n P ops Q (ops.toList.drop m) a w) : AnyH F n P ops Q S k listed a w := by
  cases k0 with
  | zero =>
    simp only [lineB, Bool.and_eq_true, beq_iff_eq] at hl
    obtain ⟨rfl, hr⟩ := hl
    rw [List.drop_of_length_le (by simp)] at h
    exact AnyH.done hr h
  | succ k0 =>
    obtain ⟨k, rfl⟩ : ∃ k', k = k' + 1 := ⟨k - 1, by omega⟩
    have hl0 := hl
    simp only [lineB, Bool.and_eq_true, beq_iff_eq, decide_eq_true_eq] at hl
    obtain ⟨⟨hr, hm⟩, hl⟩ := hl
    have hb : bar ops listed m = true := by
      simp only [Bool.or_eq_true, beq_iff_eq] at hb
      rcases hb with e | e
      · omega
      · exact e
    refine ⟨fun e => (by rw [hr] at e; cases e), fun i hi => ?_⟩
    have hx := (line_any' (k0 + 1) (k + 1) m hk hl0 h).2 i hi
    rw [hr] at hi
    obtain rfl : i = m := by simpa using hi
    exact wpOpIn_mono (fun _ _ x => .inr ⟨hb, x⟩) hx

/-- What is known where some of js have come up. -/
structure FJ (ops : Array Oper) (js : List Nat) (PP : Nat → Value → World → Prop) (al : Nat → Bool) (a0 : Act) (p : Nat → Bool) (vs : Nat → Value) (a : Act) (w : World) : Prop where
  defers : a.defers = a0.defers
  size : a.tmps.size = a0.tmps.size
  other : ∀ t : Tmp, (∀ j ∈ js, p j = true → dstOf ops j ≠ some t) → a.tmps[t]? = a0.tmps[t]?
  own : ∀ j ∈ js, p j = true → ∀ t : Tmp, dstOf ops j = some t → a.tmps[t]? = some (vs j)
  hP : ∀ j ∈ js, p j = true → PP j (vs j) w
  dist : ∀ i ∈ js, ∀ j ∈ js, p i = true → p j = true → al i = true → al j = true → i ≠ j → vs i ≠ vs j
  down : ∀ j ∈ js, p j = true → ∀ i ∈ deps ops js j, p i = true
theorem FJ.closed {ops : Array Oper} {js : List Nat} {PP : Nat → Value → World → Prop} {al : Nat → Bool} {a0 : Act} {p : Nat → Bool} {vs : Nat → Value} {a : Act} {w : World} (h : FJ ops js PP al a0 p vs a w) :
    ((js.filter p).all fun j => (deps ops js j).all (js.filter p).contains) = true := by
  rw [List.all_eq_true]
  intro j hj
  obtain ⟨h1, h2⟩ := List.mem_filter.1 hj
  rw [List.all_eq_true]
  intro i hi
  simp only [List.contains_iff_mem, List.mem_filter]
  exact ⟨(List.mem_filter.1 hi).1, h.down j h1 h2 i hi⟩

theorem act_ext {a b : Act} (h1 : ∀ t : Nat, a.tmps[t]? = b.tmps[t]?) (h2 : a.defers = b.defers) : a = b := by
  obtain ⟨t1, d1⟩ := a; obtain ⟨t2, d2⟩ := b
  simp only at h1 h2
  have := Array.ext_getElem? h1
  subst this h2; rfl

theorem AnyH.float {l : List Oper} (js : List Nat) (m : Nat) (PP : Nat → Value → World → Prop) (al : Nat → Bool) {k : Nat} {listed : Array Bool} {a : Act} {w : World}
    (hc : floatOk l.toArray listed js m a.tmps.size = true) (hk : js.length + (l.toArray.size - m) ≤ k) (hF : ∀ f, F.fn f) (hS : S w)
    (hmono : ∀ j ∈ js, ∀ v w w', PP j v w → Below w.heap.size w w' → PP j v w')
    (hbox : ∀ j ∈ js, al j = true → ∀ v w, PP j v w → ∃ B, v = .pointer (some ⟨B, 0, none⟩) ∧ B < w.heap.size)
    (hstep : ∀ j ∈ js, ∀ vs w, S w → (∀ i ∈ deps l.toArray js j, PP i (vs i) w) → ∀ K : Act → World → Prop, (∀ v w', S w' → Below w.heap.size w w' → PP j v w' → (al j = true → v = .pointer (some ⟨w.heap.size, 0, none⟩)) → K ((putAll l.toArray vs a (deps l.toArray js j)).put (dstOf l.toArray j) v) w') → StepIn F n P l.toArray j K (putAll l.toArray vs a (deps l.toArray js j)) w)
    (htail : ∀ vs w, S w → (∀ j ∈ js, PP j (vs j) w) → (∀ i ∈ js, ∀ j ∈ js, al i = true → al j = true → i ≠ j → vs i ≠ vs j) → wpListIn F n P l.toArray Q (l.drop m) (putAll l.toArray vs a js) w) :
    AnyH F n P l.toArray Q S k listed a w := by
  simp only [floatOk, Bool.and_eq_true] at hc
  obtain ⟨⟨⟨⟨hnd, hns⟩, hl⟩, hdd⟩, hsub⟩ := hc
  have hlook : ∀ j ∈ js, looksOk l.toArray js j = true := fun j hj => by
    have := List.all_eq_true.1 hl j hj; simp only [Bool.and_eq_true] at this; exact this.1
  have hdst : ∀ j ∈ js, ∃ d, dstOf l.toArray j = some d ∧ d < a.tmps.size := fun j hj => by
    have := List.all_eq_true.1 hl j hj; simp only [Bool.and_eq_true] at this
    have h2 := this.2
    cases hd : dstOf l.toArray j with
    | none => rw [hd] at h2; cases h2
    | some d => rw [hd] at h2; exact ⟨d, rfl, by simpa using h2⟩
  have hne : ∀ i ∈ js, ∀ j ∈ js, i ≠ j → dstOf l.toArray i ≠ dstOf l.toArray j := fun i hi j hj hij => by
    have := List.all_eq_true.1 (List.all_eq_true.1 hdd i hi) j hj
    simpa [hij] using this
  suffices H : ∀ (k : Nat) (p : Nat → Bool) (vs : Nat → Value) (b : Act) (w : World), FJ l.toArray js PP al a p vs b w → S w → (js.length - (js.filter p).length) + (l.toArray.size - m) ≤ k → AnyH F n P l.toArray Q S k (mark listed (js.filter p)) b w by
    have hf : js.filter (fun _ => false) = [] := List.filter_eq_nil_iff.2 (fun _ _ h => by cases h)
    have h0 := H k (fun _ => false) (fun _ => undef) a w ⟨rfl, rfl, fun _ _ => rfl, fun _ _ h => (by cases h), fun _ _ h => (by cases h), fun _ _ _ _ h => (by cases h), fun _ _ h => (by cases h)⟩ hS (by rw [hf]; simpa using hk)
    rw [hf] at h0
    exact h0
  have hfin : ∀ (k : Nat) (p : Nat → Bool) (vs : Nat → Value) (b : Act) (w : World), FJ l.toArray js PP al a p vs b w → S w → l.toArray.size - m ≤ k → (js.filter p).length = js.length → AnyH F n P l.toArray Q S k (mark listed (js.filter p)) b w := by
    intro k p vs b w hJ hS hk hall
    have hp : ∀ j ∈ js, p j = true := fun j hj => List.length_filter_eq_length_iff.1 hall j hj
    have hc := List.all_eq_true.1 hsub _ (filter_subs p js)
    rw [hJ.closed, Bool.not_true, Bool.false_or] at hc
    rw [if_pos (by simpa using hall)] at hc
    simp only [Bool.and_eq_true] at hc
    have hb : b = putAll l.toArray vs a js := by
      apply act_ext
      · intro t
        by_cases ht : ∃ j ∈ js, dstOf l.toArray j = some t
        · obtain ⟨j, hj, hd⟩ := ht
          obtain ⟨d, hd2, hlt⟩ := hdst j hj
          have e : d = t := by rw [hd] at hd2; exact (Option.some.inj hd2).symm
          subst e
          rw [hJ.own j hj (hp j hj) d hd, putAll_eq vs js a (fun i hi e => by
            by_cases h : i = j
            · exact h
            · exact absurd (e.trans hd.symm) (hne i hi j hj h)) hj hd hlt]
        · rw [hJ.other t (fun j hj _ e => ht ⟨j, hj, e⟩), putAll_ne vs js a (fun j hj e => ht ⟨j, hj, e⟩)]
      · rw [hJ.defers, putAll_defers]
    subst hb
    refine line_anyH hk hc.1 hc.2 ?_
    have := htail vs w hS (fun j hj => hJ.hP j hj (hp j hj)) (fun i hi j hj h1 h2 h3 => hJ.dist i hi j hj (hp i hi) (hp j hj) h1 h2 h3)
    simpa using this
  intro k
  induction k with
  | zero =>
    intro p vs b w hJ hS hk
    exact hfin 0 p vs b w hJ hS (by omega) (Nat.le_antisymm (List.length_filter_le _ _) (by omega))
  | succ k ih =>
    intro p vs b w hJ hS hk
    by_cases hall : (js.filter p).length = js.length
    · exact hfin (k + 1) p vs b w hJ hS (by omega) hall
    have hc := List.all_eq_true.1 hsub _ (filter_subs p js)
    rw [hJ.closed, Bool.not_true, Bool.false_or] at hc
    rw [if_neg (by simpa using hall)] at hc
    simp only [Bool.and_eq_true, bne_iff_ne, ne_eq] at hc
    refine ⟨fun e => absurd e hc.1, fun i hi => ?_⟩
    have hci := List.all_eq_true.1 hc.2 i hi
    simp only [Bool.and_eq_true] at hci
    have hij : i ∈ js := by simpa using hci.1.1
    have hip : p i = false := by
      have h := hci.1.2
      cases hpi : p i with
      | false => rfl
      | true => simp [List.mem_filter, hij, hpi] at h
    have hdp : ∀ j ∈ deps l.toArray js i, p j = true := fun j hj => by
      have h := List.all_eq_true.1 hci.2 j hj
      simp only [List.contains_iff_mem, List.mem_filter] at h
      exact h.2
    have hdj : ∀ j ∈ deps l.toArray js i, j ∈ js := fun j hj => (List.mem_filter.1 hj).1
    obtain ⟨d, hd, hds⟩ := hdst i hij
    let aj := putAll l.toArray vs a (deps l.toArray js i)
    have hajs : aj.tmps.size = a.tmps.size := putAll_size vs _ a
    have hK := hstep i hij vs w hS (fun j hj => hJ.hP j (hdj j hj) (hdp j hj)) (fun x w'' => ∃ v, x.tmps[d]? = some v ∧ x.defers = aj.defers ∧ (S w'' ∧ Below w.heap.size w w'' ∧ PP i v w'' ∧ (al i = true → v = .pointer (some ⟨w.heap.size, 0, none⟩))))
      (fun v w' h1 h2 h3 h4 => ⟨v, by rw [hd]; exact put_get_eq _ _ (by rw [putAll_size]; exact hds), by rw [put_defers], h1, h2, h3, h4⟩)
    obtain ⟨o, ho, hif⟩ := hK
    have hod : o.dst = some d := by have := hd; unfold dstOf at this; rw [ho] at this; exact this
    have hag : ∀ t ∈ o.looksAt l.toArray, b.tmps[t]? = aj.tmps[t]? := fun t ht => by
      have hlk := hlook i hij
      unfold looksOk at hlk
      rw [ho] at hlk
      have h := List.all_eq_true.1 hlk t ht
      by_cases hx : ∃ j ∈ js, dstOf l.toArray j = some t
      · obtain ⟨j, hj, hdt⟩ := hx
        have h2 := List.all_eq_true.1 h j hj
        have hjd : j ∈ deps l.toArray js i := by simpa [hdt] using h2
        obtain ⟨d', hd', hlt⟩ := hdst j hj
        have e : d' = t := by rw [hdt] at hd'; exact (Option.some.inj hd').symm
        subst e
        rw [hJ.own j hj (hdp j hjd) _ hdt]
        exact (putAll_eq vs _ a (fun x hx e => by
          by_cases h : x = j
          · exact h
          · exact absurd (e.trans hdt.symm) (hne x (hdj x hx) j hj h)) hjd hdt hlt).symm
      · rw [hJ.other t (fun j hj _ e => hx ⟨j, hj, e⟩)]
        exact (putAll_ne vs _ a (fun j hj e => hx ⟨j, hdj j hj, e⟩)).symm
    have hwant : Region.wanted o (yielded l.toArray b.tmps) = Region.wanted o (yielded l.toArray aj.tmps) := by
      unfold Region.wanted
      cases hg : o.guard with
      | none => rfl
      | some gw =>
        obtain ⟨g, want⟩ := gw
        have hy : yielded l.toArray b.tmps g = yielded l.toArray aj.tmps g := by
          unfold yielded
          cases ht : (l.toArray[g]?).bind (·.dst) with
          | none => rfl
          | some t =>
            have := hag t (by simp only [Oper.looksAt, hg, ht]; simp)
            simp only [Option.bind_some, this]
        simp only [hy]
    have hexec : execOp b.eval o = execOp aj.eval o := by
      refine execOp_congr o (fun cs b' => Region.noSelect_spec hns _ _ cs b' ho) (fun x hx => ?_)
      cases x with
      | tmp t =>
        have := hag t (List.mem_append_left _ (List.mem_filterMap.2 ⟨.tmp t, by simpa using hx, rfl⟩))
        show b.tmps.getD t undef = aj.tmps.getD t undef
        rw [Array.getD_eq_getD_getElem?, Array.getD_eq_getD_getElem?, this]
      | _ => rfl
    have hnext : ∀ (v : Value) (w'' : World), (S w'' ∧ Below w.heap.size w w'' ∧ PP i v w'' ∧ (al i = true → v = .pointer (some ⟨w.heap.size, 0, none⟩))) →
        (S w'' ∧ AnyH F n P l.toArray Q S k ((mark listed (js.filter p)).setIfInBounds i true) (b.put (some d) v) w'') ∨
        (bar l.toArray (mark listed (js.filter p)) i = true ∧ wpAnyIn F n P .any l.toArray Q k ((mark listed (js.filter p)).setIfInBounds i true) (b.put (some d) v) w'') := by
      intro v w'' ⟨h1, h2, h3, h4⟩
      left
      refine ⟨h1, ?_⟩
      rw [mark_step listed js p i hij]
      refine ih (fun x => p x || x == i) (fun x => if x = i then v else vs x) _ w'' ?_ h1 ?_
      · refine ⟨by rw [put_defers, hJ.defers], by rw [put_size, hJ.size], ?_, ?_, ?_, ?_, ?_⟩
        · intro t ht
          rw [put_get_ne _ _ _ (fun e => ht i hij (by simp) (hd.trans e)), hJ.other t (fun j hj hpj => ht j hj (by simp [hpj]))]
        · intro j hj hpj t hdt
          by_cases e : j = i
          · subst e
            have e2 : d = t := by rw [hd] at hdt; exact Option.some.inj hdt
            subst e2
            rw [put_get_eq _ _ (by rw [hJ.size]; exact hds), if_pos rfl]
          · have hpj' : p j = true := by simpa [e] using hpj
            rw [put_get_ne _ _ _ (fun e2 => hne j hj i hij e (hdt.trans (e2.symm.trans hd.symm))), hJ.own j hj hpj' t hdt, if_neg e]
        · intro j hj hpj
          by_cases e : j = i
          · subst e; rw [if_pos rfl]; exact h3
          · have hpj' : p j = true := by simpa [e] using hpj
            rw [if_neg e]; exact hmono j hj _ _ _ (hJ.hP j hj hpj') h2
        · intro x hx y hy hpx hpy hax hay hxy
          by_cases ex : x = i
          · have ey : ¬ y = i := fun e => hxy (ex.trans e.symm)
            have hpy' : p y = true := by simpa [ey] using hpy
            subst ex
            rw [if_pos rfl, if_neg ey, h4 hax]
            obtain ⟨B, hB, hlt⟩ := hbox y hy hay _ _ (hJ.hP y hy hpy')
            rw [hB]
            intro e; injection e with e; injection e with e; injection e with e; omega
          · by_cases ey : y = i
            · have hpx' : p x = true := by simpa [ex] using hpx
              subst ey
              rw [if_neg ex, if_pos rfl, h4 hay]
              obtain ⟨B, hB, hlt⟩ := hbox x hx hax _ _ (hJ.hP x hx hpx')
              rw [hB]
              intro e; injection e with e; injection e with e; injection e with e; omega
            · rw [if_neg ex, if_neg ey]
              exact hJ.dist x hx y hy (by simpa [ex] using hpx) (by simpa [ey] using hpy) hax hay hxy
        · intro j hj hpj x hx
          by_cases e : j = i
          · subst e; simp [hdp x hx]
          · have hpj' : p j = true := by simpa [e] using hpj
            simp [hJ.down j hj hpj' x hx]
      · have := filter_more (p := p) hij hip
        have := List.length_filter_le p js
        omega
    unfold wpOpIn
    rw [ho]
    show if Region.wanted o (yielded l.toArray b.tmps) = true then _ else _
    rw [hwant]
    split
    · rename_i hw
      rw [if_pos hw] at hif
      refine ⟨fun f _ => hF f, ?_⟩
      rw [Oper.semAt_eq _ _ _ (noDefer_spec hnd _ _ ho), hexec]
      exact upon_move hod (by rw [hajs]; exact hds) hnext hif
    · rename_i hw
      rw [if_neg hw] at hif
      refine ⟨fun f _ => hF f, ?_⟩
      obtain ⟨v, hv, -, hx⟩ := hif
      rw [hod] at hv ⊢
      rw [put_get_eq _ _ (by rw [hajs]; exact hds)] at hv
      rw [Option.some.inj hv]
      exact hnext _ _ hx

def putL (ds : Nat → Tmp) (vs : Nat → Value) (a : Act) (s : List Nat) : Act := s.foldl (fun a j => a.put (some (ds j)) (vs j)) a
theorem putAll_L {ds : Nat → Tmp} (vs : Nat → Value) : ∀ (s : List Nat) (a : Act), (∀ j ∈ s, dstOf ops j = some (ds j)) → putAll ops vs a s = putL ds vs a s
  | [], _, _ => rfl
  | x :: s, a, h => by
    show putAll ops vs (a.put (dstOf ops x) (vs x)) s = putL ds vs (a.put (some (ds x)) (vs x)) s
    rw [h x (List.mem_cons_self ..)]
    exact putAll_L vs s _ (fun j hj => h j (List.mem_cons_of_mem _ hj))
/-- The same with the tables written out: dl, what each of js waits for; ds, where each lays what it gives. -/
theorem AnyH.floatL {l : List Oper} (js : List Nat) (m : Nat) (dl : Nat → List Nat) (ds : Nat → Tmp) (PP : Nat → Value → World → Prop) (al : Nat → Bool) {k : Nat} {listed : Array Bool} {a : Act} {w : World}
    (hc : floatOk l.toArray listed js m a.tmps.size = true) (hdl : (js.all fun j => deps l.toArray js j == dl j && dstOf l.toArray j == some (ds j)) = true) (hk : js.length + (l.toArray.size - m) ≤ k) (hF : ∀ f, F.fn f) (hS : S w)
    (hmono : ∀ j ∈ js, ∀ v w w', PP j v w → Below w.heap.size w w' → PP j v w')
    (hbox : ∀ j ∈ js, al j = true → ∀ v w, PP j v w → ∃ B, v = .pointer (some ⟨B, 0, none⟩) ∧ B < w.heap.size)
    (hstep : ∀ j ∈ js, ∀ vs w, S w → (∀ i ∈ dl j, PP i (vs i) w) → ∀ K : Act → World → Prop, (∀ v w', S w' → Below w.heap.size w w' → PP j v w' → (al j = true → v = .pointer (some ⟨w.heap.size, 0, none⟩)) → K ((putL ds vs a (dl j)).put (some (ds j)) v) w') → StepIn F n P l.toArray j K (putL ds vs a (dl j)) w)
    (htail : ∀ vs w, S w → (∀ j ∈ js, PP j (vs j) w) → (∀ i ∈ js, ∀ j ∈ js, al i = true → al j = true → i ≠ j → vs i ≠ vs j) → wpListIn F n P l.toArray Q (l.drop m) (putL ds vs a js) w) :
    AnyH F n P l.toArray Q S k listed a w := by
  have h1 : ∀ j ∈ js, deps l.toArray js j = dl j := fun j hj => by
    have := List.all_eq_true.1 hdl j hj; simp only [Bool.and_eq_true, beq_iff_eq] at this; exact this.1
  have h2 : ∀ j ∈ js, dstOf l.toArray j = some (ds j) := fun j hj => by
    have := List.all_eq_true.1 hdl j hj; simp only [Bool.and_eq_true, beq_iff_eq] at this; exact this.2
  have h3 : ∀ j ∈ js, ∀ i ∈ deps l.toArray js j, dstOf l.toArray i = some (ds i) := fun j _ i hi => h2 i (List.mem_filter.1 hi).1
  refine AnyH.float js m PP al hc hk hF hS hmono hbox ?_ ?_
  · intro j hj vs w hS hP K hK
    rw [putAll_L vs _ a (h3 j hj), h1 j hj]
    refine hstep j hj vs w hS (by rw [← h1 j hj]; exact hP) K ?_
    intro v w' a1 a2 a3 a4
    have := hK v w' a1 a2 a3 a4
    rwa [putAll_L vs _ a (h3 j hj), h1 j hj, h2 j hj] at this
  · intro vs w hS hP hD
    rw [putAll_L vs _ a h2]
    exact htail vs w hS hP hD
theorem StepIn.mk {j : Nat} {o : Oper} {K : Act → World → Prop} {a : Act} {w : World} (ho : ops[j]? = some o) (hw : Region.wanted o (yielded ops a.tmps) = true) (h : o.uponIn F n P a K (fun _ _ _ => False) ((execOp a.eval o).run P w)) : StepIn F n P ops j K a w :=
  ⟨o, ho, by rw [if_pos hw]; exact h⟩
end
end Go.Proofs.Ytplccefjljdjnaa
namespace Go.Proofs.Ytplccefjljdjnaa
open Go.RowKit Go.MapKept Go.ChangeMaps Go.WideMaps
namespace IM
/-- A number of 64 bits. -/
def In (n : Int) : Prop := (Lit.int .i64 n).wf = true

section
variable {α : Type}
def getA (s : Int) : List (Int × α) → Option α
  | [] => none
  | p :: l => if p.1 = s then some p.2 else getA s l
def putA (s : Int) (a : α) : List (Int × α) → List (Int × α)
  | [] => [(s, a)]
  | p :: l => if p.1 = s then (s, a) :: l else p :: putA s a l
theorem getA_none {s : Int} : ∀ {l : List (Int × α)}, (∀ p ∈ l, p.1 ≠ s) → getA s l = none
  | [], _ => rfl
  | p :: l, h => by rw [getA, if_neg (h p (List.mem_cons_self ..))]; exact getA_none fun q hq => h q (List.mem_cons_of_mem _ hq)
theorem getA_at {s : Int} : ∀ {l : List (Int × α)} {j : Nat} {a : α}, (l.map Prod.fst).Nodup → l[j]? = some (s, a) → getA s l = some a
  | p :: l, 0, a, _, h => by
    simp only [List.getElem?_cons_zero, Option.some.injEq] at h
    subst h
    rw [getA, if_pos rfl]
  | p :: l, j + 1, a, hn, h => by
    rw [List.getElem?_cons_succ] at h
    obtain ⟨h1, h2⟩ := List.nodup_cons.1 hn
    rw [getA, if_neg (fun e : p.1 = s => h1 (List.mem_map.2 ⟨_, List.mem_of_getElem? h, e.symm⟩))]
    exact getA_at h2 h
theorem putA_none {s : Int} {a : α} : ∀ {l : List (Int × α)}, (∀ p ∈ l, p.1 ≠ s) → putA s a l = l ++ [(s, a)]
  | [], _ => rfl
  | p :: l, h => by rw [putA, if_neg (h p (List.mem_cons_self ..)), putA_none fun q hq => h q (List.mem_cons_of_mem _ hq)]; rfl
theorem putA_at {s : Int} {a : α} : ∀ {l : List (Int × α)} {j : Nat} {b : α}, (l.map Prod.fst).Nodup → l[j]? = some (s, b) → putA s a l = l.set j (s, a)
  | p :: l, 0, b, _, h => by
    simp only [List.getElem?_cons_zero, Option.some.injEq] at h
    subst h
    rw [putA, if_pos rfl]; rfl
  | p :: l, j + 1, b, hn, h => by
    rw [List.getElem?_cons_succ] at h
    obtain ⟨h1, h2⟩ := List.nodup_cons.1 hn
    rw [putA, if_neg (fun e : p.1 = s => h1 (List.mem_map.2 ⟨_, List.mem_of_getElem? h, e.symm⟩)), putA_at h2 h]; rfl
theorem getA_mem {s : Int} {a : α} : ∀ {l : List (Int × α)}, getA s l = some a → (s, a) ∈ l
  | [], h => by cases h
  | p :: l, h => by
    rw [getA] at h
    by_cases e : p.1 = s
    · rw [if_pos e] at h; cases h; rw [← e]; exact List.mem_cons_self ..
    · rw [if_neg e] at h; exact List.mem_cons_of_mem _ (getA_mem h)
theorem getA_put {s t : Int} {a : α} : ∀ {l : List (Int × α)}, getA t (putA s a l) = if s = t then some a else getA t l
  | [] => by simp only [putA, getA]
  | p :: l => by
    rw [putA]
    by_cases e : p.1 = s
    · rw [if_pos e, getA]
      by_cases e2 : s = t
      · rw [if_pos e2, if_pos e2]
      · rw [if_neg e2, if_neg e2, getA, if_neg (fun x => e2 (e ▸ x))]
    · rw [if_neg e, getA, getA_put, getA]
      by_cases e2 : p.1 = t
      · rw [if_pos e2, if_neg (fun x => e (e2.trans x.symm)), if_pos e2]
      · rw [if_neg e2, if_neg e2]
theorem putA_length {s : Int} {a : α} : ∀ {l : List (Int × α)}, l.length ≤ (putA s a l).length ∧ (putA s a l).length ≤ l.length + 1
  | [] => by simp [putA]
  | p :: l => by
    rw [putA]
    have := putA_length (s := s) (a := a) (l := l)
    split <;> simp <;> omega

/-- How an entry reads. -/
def ent (ev : α → Value) (p : Int × α) : Value × Value := (.int .i64 p.1, ev p.2)
/-- Block b is a map keyed by strings that holds l. -/
def MapAt (ev : α → Value) (w : World) (b : Nat) (l : List (Int × α)) : Prop :=
  ∃ es clock, w.heap[b]? = some (.map es clock) ∧ Stamped es clock ∧ es.toList.map (fun e => (e.key, e.val)) = l.map (ent ev) ∧ ∀ p ∈ l, In p.1

variable {ev : α → Value} {w : World} {b : Nat} {l : List (Int × α)}
theorem MapAt.lt (h : MapAt ev w b l) : b < w.heap.size := by obtain ⟨es, c, h, -⟩ := h; exact (Array.getElem?_eq_some_iff.1 h).1
theorem MapAt.of_block {w' : World} (h : MapAt ev w b l) (hb : w'.heap[b]? = w.heap[b]?) : MapAt ev w' b l := by
  obtain ⟨es, c, h1, h2⟩ := h
  exact ⟨es, c, hb.trans h1, h2⟩
theorem MapAt.below {w' : World} (h : MapAt ev w b l) (hb : Below w.heap.size w w') : MapAt ev w' b l := h.of_block (hb.block b h.lt)
theorem MapAt.made (ev : α → Value) (w : World) : MapAt ev (w.alloc (.map #[] 0)) w.heap.size [] :=
  ⟨#[], 0, by show (w.heap.push _)[w.heap.size]? = _; simp, stamped_empty 0, by simp, by simp⟩
theorem MapAt.nodup (h : MapAt ev w b l) : (l.map Prod.fst).Nodup := by
  obtain ⟨es, c, -, h2, h3, -⟩ := h
  have h4 := ((stamped_iff es c).1 h2).2.2
  have h5 : (es.toList.map (fun e => (e.key, e.val))).Pairwise (fun x y => x.1 ≠ y.1) := List.pairwise_map.2 h4
  rw [h3] at h5
  have h6 := List.pairwise_map.1 h5
  refine List.pairwise_map.2 (h6.imp fun {x y} h e => h ?_)
  simp only [ent]; rw [e]
theorem MapAt.size (h : MapAt ev w b l) : ∃ es c, w.heap[b]? = some (.map es c) ∧ es.size = l.length := by
  obtain ⟨es, c, h1, -, h3, -⟩ := h
  refine ⟨es, c, h1, ?_⟩
  have := congrArg List.length h3
  simpa using this

variable {P : Program} {k e t : TypeId}
theorem MapAt.reads (hk : P.underlying k = some (.int .i64)) {es : Array MapEntry} (h3 : es.toList.map (fun e => (e.key, e.val)) = l.map (ent ev)) (h4 : ∀ p ∈ l, In p.1) : ∀ x ∈ es.toList, ∃ lx, keyOf P k x.key = some lx := by
  intro x hx
  have : (x.key, x.val) ∈ l.map (ent ev) := by rw [← h3]; exact List.mem_map.2 ⟨x, hx, rfl⟩
  obtain ⟨p, hp, e⟩ := List.mem_map.1 this
  simp only [ent, Prod.mk.injEq] at e
  rw [← e.1]
  exact ⟨_, Maps.keyOf_int_mk hk (h4 p hp)⟩
theorem MapAt.spot {es : Array MapEntry} (h3 : es.toList.map (fun e => (e.key, e.val)) = l.map (ent ev)) {j : Nat} {x : MapEntry} (h : es.toList[j]? = some x) {s : Int} (hs : x.key = .int .i64 s) : ∃ a, l[j]? = some (s, a) ∧ x.val = ev a := by
  have h5 : (l.map (ent ev))[j]? = some (x.key, x.val) := by rw [← h3, List.getElem?_map, h]; rfl
  rw [List.getElem?_map] at h5
  obtain ⟨p, hp, e⟩ := Option.map_eq_some_iff.1 h5
  simp only [ent, Prod.mk.injEq] at e
  rw [hs] at e
  have e1 : p.1 = s := by have := e.1; cases this; rfl
  exact ⟨p.2, by rw [hp, ← e1], e.2.symm⟩
theorem MapAt.none_of {es : Array MapEntry} (h3 : es.toList.map (fun e => (e.key, e.val)) = l.map (ent ev)) {s : Int} (h : ∀ x ∈ es.toList, x.key ≠ .int .i64 s) : ∀ p ∈ l, p.1 ≠ s := by
  intro p hp e
  have : ent ev p ∈ es.toList.map (fun e => (e.key, e.val)) := by rw [h3]; exact List.mem_map.2 ⟨p, hp, rfl⟩
  obtain ⟨x, hx, e2⟩ := List.mem_map.1 this
  simp only [ent, Prod.mk.injEq] at e2
  exact h x hx (by rw [e2.1, e])

/-- 'm[k]' and 'v, ok := m[k]'. -/
theorem MapAt.look (c : Bool) (h : MapAt ev w b l) (hk : P.underlying k = some (.int .i64)) (ht : P.underlying t = some (.map k e)) {z : Value} (hz : (zeroValue e).run P w = .ok z w) {s : Int} (hs : In s) :
    (Instr.lookup t (.map (some b)) (.int .i64 s) c).run P w = .ok (match getA s l with | some a => if c then .tuple #[ev a, .bool true] else ev a | none => if c then .tuple #[z, .bool false] else z) w := by
  have hn := h.nodup
  obtain ⟨es, clock, hb, h2, h3, h4⟩ := h
  have K := Maps.int_keyed hk
  have hkey := Maps.keyOf_int_mk hk hs
  rcases K.find w hkey es.toList (MapAt.reads hk h3 h4) with ⟨h5, h6⟩ | ⟨j, e0, h5, h6, h7⟩
  · rw [getA_none (MapAt.none_of h3 h6)]
    simp [Instr.lookup, run_underlying ht, MapKept.run_getObj_map hb, K.check w _ hkey, h5, hz, Result.andThen]
  · obtain ⟨a, h8, h9⟩ := MapAt.spot h3 h6 h7
    rw [getA_at hn h8]
    simp [Instr.lookup, run_underlying ht, MapKept.run_getObj_map hb, K.check w _ hkey, h5, h9, Result.andThen]

/-- 'm[k] = v'. -/
theorem MapAt.put (h : MapAt ev w b l) (hk : P.underlying k = some (.int .i64)) (ht : P.underlying t = some (.map k e)) (hroom : l.length < maxLen) {s : Int} (hs : In s) (a : α) :
    ∃ w', (Instr.mapUpdate t (.map (some b)) (.int .i64 s) (ev a)).run P w = .ok () w' ∧ MapAt ev w' b (putA s a l) ∧ w.grownBy w' (some b) ∧ w'.heap.size = w.heap.size := by
  have hn := h.nodup
  obtain ⟨es, clock, hb, h2, h3, h4⟩ := h
  have K := Maps.int_keyed hk
  have hkey := Maps.keyOf_int_mk hk hs
  have hsz : es.size = l.length := by have := congrArg List.length h3; simpa using this
  have grow : ∀ o, w.grownBy (setBlock w b o) (some b) := fun o => ⟨rfl, rfl, rfl, by simp [setBlock], fun i _ hi => heap_setBlock_other hb _ (fun e => hi (by rw [e]))⟩
  have h10 : ∀ p ∈ putA s a l, In p.1 := by
    have : ∀ {l : List (Int × α)}, (∀ p ∈ l, In p.1) → ∀ p ∈ putA s a l, In p.1 := by
      intro l
      induction l with
      | nil => intro _ p hp; simp only [putA, List.mem_singleton] at hp; subst hp; exact hs
      | cons q l ih =>
        intro h p hp
        rw [putA] at hp
        split at hp
        · rcases List.mem_cons.1 hp with rfl | hp
          · exact hs
          · exact h p (List.mem_cons_of_mem _ hp)
        · rcases List.mem_cons.1 hp with rfl | hp
          · exact h _ (List.mem_cons_self ..)
          · exact ih (fun q hq => h q (List.mem_cons_of_mem _ hq)) p hp
    exact this h4
  rcases K.find w hkey es.toList (MapAt.reads hk h3 h4) with ⟨h5, h6⟩ | ⟨j, e0, h5, h6, h7⟩
  · refine ⟨setBlock w b (.map (es.push ⟨.int .i64 s, ev a, clock⟩) (clock + 1)), ?_, ⟨_, _, heap_setBlock_same hb _, stamped_push h2 h6, ?_, h10⟩, grow _, by simp [setBlock]⟩
    · have : es.size < maxLen := by omega
      simp [Instr.mapUpdate, run_underlying ht, MapKept.run_getObj_map hb, K.check w false hkey, h5, MapKept.run_setObj_map _ hb, Result.andThen, setBlock]
    · rw [putA_none (MapAt.none_of h3 h6), Array.toList_push, List.map_append, h3, List.map_append]
      simp [ent]
  · obtain ⟨a0, h8, h9⟩ := MapAt.spot h3 h6 h7
    have hj : es[j]? = some e0 := by simpa using h6
    have hkeyf : ∀ e', es[j]? = some e' → ({ e' with key := .int .i64 s, val := ev a } : MapEntry).key = e'.key := fun e' he' => by rw [hj] at he'; cases he'; exact h7.symm
    have hlist : (es.modify j (fun e' => { e' with key := .int .i64 s, val := ev a })).toList = es.toList.set j { e0 with key := .int .i64 s, val := ev a } := by rw [Array.toList_modify, modify_eq_set _ _ _ _ h6]
    refine ⟨setBlock w b (.map (es.modify j (fun e' => { e' with key := .int .i64 s, val := ev a })) clock), ?_, ⟨_, _, heap_setBlock_same hb _, stamped_modify h2 _ _ (fun _ _ => rfl) (fun e' _ he' => hkeyf e' he'), ?_, h10⟩, grow _, by simp [setBlock]⟩
    · simp [Instr.mapUpdate, run_underlying ht, MapKept.run_getObj_map hb, K.check w false hkey, h5, hj, h7, K.stays w hkey, MapKept.run_setObj_map _ hb, Result.andThen, setBlock]
    · rw [hlist, List.map_set, h3, putA_at hn h8, List.map_set]
      rfl

end
end IM
end Go.Proofs.Ytplccefjljdjnaa
