/- Go maps keyed by strings, as association lists. No program. -/
import Derived.Maps.Keyed
import Derived.Maps.RangeRun
import Derived.Maps.Own
import Derived.StringKeys
import Derived.Below
import Derived.WalkKit
namespace Go.Proofs.Ytpjcfepngjpfbaa
open Go.RowKit Go.MapKept Go.ChangeMaps Go.WideMaps

section
variable {α : Type}
def getA (s : ByteArray) : List (ByteArray × α) → Option α
  | [] => none
  | p :: l => if p.1 = s then some p.2 else getA s l
def putA (s : ByteArray) (a : α) : List (ByteArray × α) → List (ByteArray × α)
  | [] => [(s, a)]
  | p :: l => if p.1 = s then (s, a) :: l else p :: putA s a l
theorem getA_none {s : ByteArray} : ∀ {l : List (ByteArray × α)}, (∀ p ∈ l, p.1 ≠ s) → getA s l = none
  | [], _ => rfl
  | p :: l, h => by rw [getA, if_neg (h p (List.mem_cons_self ..))]; exact getA_none fun q hq => h q (List.mem_cons_of_mem _ hq)
theorem getA_at {s : ByteArray} : ∀ {l : List (ByteArray × α)} {j : Nat} {a : α}, (l.map Prod.fst).Nodup → l[j]? = some (s, a) → getA s l = some a
  | p :: l, 0, a, _, h => by
    simp only [List.getElem?_cons_zero, Option.some.injEq] at h
    subst h
    rw [getA, if_pos rfl]
  | p :: l, j + 1, a, hn, h => by
    rw [List.getElem?_cons_succ] at h
    obtain ⟨h1, h2⟩ := List.nodup_cons.1 hn
    rw [getA, if_neg (fun e : p.1 = s => h1 (List.mem_map.2 ⟨_, List.mem_of_getElem? h, e.symm⟩))]
    exact getA_at h2 h
theorem putA_none {s : ByteArray} {a : α} : ∀ {l : List (ByteArray × α)}, (∀ p ∈ l, p.1 ≠ s) → putA s a l = l ++ [(s, a)]
  | [], _ => rfl
  | p :: l, h => by rw [putA, if_neg (h p (List.mem_cons_self ..)), putA_none fun q hq => h q (List.mem_cons_of_mem _ hq)]; rfl
theorem putA_at {s : ByteArray} {a : α} : ∀ {l : List (ByteArray × α)} {j : Nat} {b : α}, (l.map Prod.fst).Nodup → l[j]? = some (s, b) → putA s a l = l.set j (s, a)
  | p :: l, 0, b, _, h => by
    simp only [List.getElem?_cons_zero, Option.some.injEq] at h
    subst h
    rw [putA, if_pos rfl]; rfl
  | p :: l, j + 1, b, hn, h => by
    rw [List.getElem?_cons_succ] at h
    obtain ⟨h1, h2⟩ := List.nodup_cons.1 hn
    rw [putA, if_neg (fun e : p.1 = s => h1 (List.mem_map.2 ⟨_, List.mem_of_getElem? h, e.symm⟩)), putA_at h2 h]; rfl
theorem getA_mem {s : ByteArray} {a : α} : ∀ {l : List (ByteArray × α)}, getA s l = some a → (s, a) ∈ l
  | [], h => by cases h
  | p :: l, h => by
    rw [getA] at h
    by_cases e : p.1 = s
    · rw [if_pos e] at h; cases h; rw [← e]; exact List.mem_cons_self ..
    · rw [if_neg e] at h; exact List.mem_cons_of_mem _ (getA_mem h)
theorem getA_put {s t : ByteArray} {a : α} : ∀ {l : List (ByteArray × α)}, getA t (putA s a l) = if s = t then some a else getA t l
  | [] => by simp only [putA, getA]
  | p :: l => by
    rw [putA]
    by_cases e : p.1 = s
    · rw [if_pos e, getA]
      by_cases e2 : s = t
      · rw [if_pos e2, if_pos e2]
      · rw [if_neg e2, if_neg e2, getA, if_neg (fun x => e2 (e ▸ x))]
    · rw [if_neg e, getA, getA_put, getA]
      by_cases e2 : p.1 = t
      · rw [if_pos e2, if_neg (fun x => e (e2.trans x.symm)), if_pos e2]
      · rw [if_neg e2, if_neg e2]
theorem putA_length {s : ByteArray} {a : α} : ∀ {l : List (ByteArray × α)}, l.length ≤ (putA s a l).length ∧ (putA s a l).length ≤ l.length + 1
  | [] => by simp [putA]
  | p :: l => by
    rw [putA]
    have := putA_length (s := s) (a := a) (l := l)
    split <;> simp <;> omega

/-- How an entry reads. -/
def ent (ev : α → Value) (p : ByteArray × α) : Value × Value := (.string p.1, ev p.2)
/-- Block b is a map keyed by strings that holds l. -/
def MapAt (ev : α → Value) (w : World) (b : Nat) (l : List (ByteArray × α)) : Prop :=
  ∃ es clock, w.heap[b]? = some (.map es clock) ∧ Stamped es clock ∧ es.toList.map (fun e => (e.key, e.val)) = l.map (ent ev) ∧ ∀ p ∈ l, p.1.size ≤ maxLen

variable {ev : α → Value} {w : World} {b : Nat} {l : List (ByteArray × α)}
theorem MapAt.lt (h : MapAt ev w b l) : b < w.heap.size := by obtain ⟨es, c, h, -⟩ := h; exact (Array.getElem?_eq_some_iff.1 h).1
theorem MapAt.of_block {w' : World} (h : MapAt ev w b l) (hb : w'.heap[b]? = w.heap[b]?) : MapAt ev w' b l := by
  obtain ⟨es, c, h1, h2⟩ := h
  exact ⟨es, c, hb.trans h1, h2⟩
theorem MapAt.below {w' : World} (h : MapAt ev w b l) (hb : Below w.heap.size w w') : MapAt ev w' b l := h.of_block (hb.block b h.lt)
theorem MapAt.made (ev : α → Value) (w : World) : MapAt ev (w.alloc (.map #[] 0)) w.heap.size [] :=
  ⟨#[], 0, by show (w.heap.push _)[w.heap.size]? = _; simp, stamped_empty 0, by simp, by simp⟩
theorem MapAt.nodup (h : MapAt ev w b l) : (l.map Prod.fst).Nodup := by
  obtain ⟨es, c, -, h2, h3, -⟩ := h
  have h4 := ((stamped_iff es c).1 h2).2.2
  have h5 : (es.toList.map (fun e => (e.key, e.val))).Pairwise (fun x y => x.1 ≠ y.1) := List.pairwise_map.2 h4
  rw [h3] at h5
  have h6 := List.pairwise_map.1 h5
  refine List.pairwise_map.2 (h6.imp fun {x y} h e => h ?_)
  simp only [ent]; rw [e]
theorem MapAt.size (h : MapAt ev w b l) : ∃ es c, w.heap[b]? = some (.map es c) ∧ es.size = l.length := by
  obtain ⟨es, c, h1, -, h3, -⟩ := h
  refine ⟨es, c, h1, ?_⟩
  have := congrArg List.length h3
  simpa using this

variable {P : Program} {k e t : TypeId}
theorem MapAt.reads (hk : P.underlying k = some .string) {es : Array MapEntry} (h3 : es.toList.map (fun e => (e.key, e.val)) = l.map (ent ev)) (h4 : ∀ p ∈ l, p.1.size ≤ maxLen) : ∀ x ∈ es.toList, ∃ lx, keyOf P k x.key = some lx := by
  intro x hx
  have : (x.key, x.val) ∈ l.map (ent ev) := by rw [← h3]; exact List.mem_map.2 ⟨x, hx, rfl⟩
  obtain ⟨p, hp, e⟩ := List.mem_map.1 this
  simp only [ent, Prod.mk.injEq] at e
  rw [← e.1]
  exact ⟨_, keyOf_string_mk hk (h4 p hp)⟩
theorem MapAt.spot {es : Array MapEntry} (h3 : es.toList.map (fun e => (e.key, e.val)) = l.map (ent ev)) {j : Nat} {x : MapEntry} (h : es.toList[j]? = some x) {s : ByteArray} (hs : x.key = .string s) : ∃ a, l[j]? = some (s, a) ∧ x.val = ev a := by
  have h5 : (l.map (ent ev))[j]? = some (x.key, x.val) := by rw [← h3, List.getElem?_map, h]; rfl
  rw [List.getElem?_map] at h5
  obtain ⟨p, hp, e⟩ := Option.map_eq_some_iff.1 h5
  simp only [ent, Prod.mk.injEq] at e
  rw [hs] at e
  have e1 : p.1 = s := by have := e.1; cases this; rfl
  exact ⟨p.2, by rw [hp, ← e1], e.2.symm⟩
theorem MapAt.none_of {es : Array MapEntry} (h3 : es.toList.map (fun e => (e.key, e.val)) = l.map (ent ev)) {s : ByteArray} (h : ∀ x ∈ es.toList, x.key ≠ .string s) : ∀ p ∈ l, p.1 ≠ s := by
  intro p hp e
  have : ent ev p ∈ es.toList.map (fun e => (e.key, e.val)) := by rw [h3]; exact List.mem_map.2 ⟨p, hp, rfl⟩
  obtain ⟨x, hx, e2⟩ := List.mem_map.1 this
  simp only [ent, Prod.mk.injEq] at e2
  exact h x hx (by rw [e2.1, e])

/-- 'm[k]' and 'v, ok := m[k]'. -/
theorem MapAt.look (c : Bool) (h : MapAt ev w b l) (hk : P.underlying k = some .string) (ht : P.underlying t = some (.map k e)) {z : Value} (hz : (zeroValue e).run P w = .ok z w) {s : ByteArray} (hs : s.size ≤ maxLen) :
    (Instr.lookup t (.map (some b)) (.string s) c).run P w = .ok (match getA s l with | some a => if c then .tuple #[ev a, .bool true] else ev a | none => if c then .tuple #[z, .bool false] else z) w := by
  have hn := h.nodup
  obtain ⟨es, clock, hb, h2, h3, h4⟩ := h
  have K := Maps.string_keyed hk
  have hkey := keyOf_string_mk hk hs
  rcases K.find w hkey es.toList (MapAt.reads hk h3 h4) with ⟨h5, h6⟩ | ⟨j, e0, h5, h6, h7⟩
  · rw [getA_none (MapAt.none_of h3 h6)]
    simp [Instr.lookup, run_underlying ht, MapKept.run_getObj_map hb, K.check w _ hkey, h5, hz, Result.andThen]
  · obtain ⟨a, h8, h9⟩ := MapAt.spot h3 h6 h7
    rw [getA_at hn h8]
    simp [Instr.lookup, run_underlying ht, MapKept.run_getObj_map hb, K.check w _ hkey, h5, h9, Result.andThen]

/-- 'm[k] = v'. -/
theorem MapAt.put (h : MapAt ev w b l) (hk : P.underlying k = some .string) (ht : P.underlying t = some (.map k e)) (hroom : l.length < maxLen) {s : ByteArray} (hs : s.size ≤ maxLen) (a : α) :
    ∃ w', (Instr.mapUpdate t (.map (some b)) (.string s) (ev a)).run P w = .ok () w' ∧ MapAt ev w' b (putA s a l) ∧ w.grownBy w' (some b) ∧ w'.heap.size = w.heap.size := by
  have hn := h.nodup
  obtain ⟨es, clock, hb, h2, h3, h4⟩ := h
  have K := Maps.string_keyed hk
  have hkey := keyOf_string_mk hk hs
  have hsz : es.size = l.length := by have := congrArg List.length h3; simpa using this
  have grow : ∀ o, w.grownBy (setBlock w b o) (some b) := fun o => ⟨rfl, rfl, rfl, by simp [setBlock], fun i _ hi => heap_setBlock_other hb _ (fun e => hi (by rw [e]))⟩
  have h10 : ∀ p ∈ putA s a l, p.1.size ≤ maxLen := by
    have : ∀ {l : List (ByteArray × α)}, (∀ p ∈ l, p.1.size ≤ maxLen) → ∀ p ∈ putA s a l, p.1.size ≤ maxLen := by
      intro l
      induction l with
      | nil => intro _ p hp; simp only [putA, List.mem_singleton] at hp; subst hp; exact hs
      | cons q l ih =>
        intro h p hp
        rw [putA] at hp
        split at hp
        · rcases List.mem_cons.1 hp with rfl | hp
          · exact hs
          · exact h p (List.mem_cons_of_mem _ hp)
        · rcases List.mem_cons.1 hp with rfl | hp
          · exact h _ (List.mem_cons_self ..)
          · exact ih (fun q hq => h q (List.mem_cons_of_mem _ hq)) p hp
    exact this h4
  rcases K.find w hkey es.toList (MapAt.reads hk h3 h4) with ⟨h5, h6⟩ | ⟨j, e0, h5, h6, h7⟩
  · refine ⟨setBlock w b (.map (es.push ⟨.string s, ev a, clock⟩) (clock + 1)), ?_, ⟨_, _, heap_setBlock_same hb _, stamped_push h2 h6, ?_, h10⟩, grow _, by simp [setBlock]⟩
    · have : es.size < maxLen := by omega
      simp [Instr.mapUpdate, run_underlying ht, MapKept.run_getObj_map hb, K.check w false hkey, h5, MapKept.run_setObj_map _ hb, Result.andThen, setBlock]
    · rw [putA_none (MapAt.none_of h3 h6), Array.toList_push, List.map_append, h3, List.map_append]
      simp [ent]
  · obtain ⟨a0, h8, h9⟩ := MapAt.spot h3 h6 h7
    have hj : es[j]? = some e0 := by simpa using h6
    have hkeyf : ∀ e', es[j]? = some e' → ({ e' with key := .string s, val := ev a } : MapEntry).key = e'.key := fun e' he' => by rw [hj] at he'; cases he'; exact h7.symm
    have hlist : (es.modify j (fun e' => { e' with key := .string s, val := ev a })).toList = es.toList.set j { e0 with key := .string s, val := ev a } := by rw [Array.toList_modify, modify_eq_set _ _ _ _ h6]
    refine ⟨setBlock w b (.map (es.modify j (fun e' => { e' with key := .string s, val := ev a })) clock), ?_, ⟨_, _, heap_setBlock_same hb _, stamped_modify h2 _ _ (fun _ _ => rfl) (fun e' _ he' => hkeyf e' he'), ?_, h10⟩, grow _, by simp [setBlock]⟩
    · simp [Instr.mapUpdate, run_underlying ht, MapKept.run_getObj_map hb, K.check w false hkey, h5, hj, h7, K.stays w hkey, MapKept.run_setObj_map _ hb, Result.andThen, setBlock]
    · rw [hlist, List.map_set, h3, putA_at hn h8, List.map_set]
      rfl

/-- 'len(m)'. -/
theorem MapAt.len (h : MapAt ev w b l) {ty : TypeId} (ht : P.underlying t = some (.map k e)) : (Builtin.len_ #[t] ty #[.map (some b)]).run P w = .ok (.int .i64 l.length) w := by
  obtain ⟨es, c, hb, hs⟩ := h.size
  simp [Builtin.len_, run_underlying ht, MapKept.run_getObj_map hb, Result.andThen, hs, goInt]

/-- Block r is an iterator over the map in block b, to which left is still to come (in whatever order). -/
def RangeAt (ev : α → Value) (w : World) (b r : Nat) (l left : List (ByteArray × α)) : Prop :=
  ∃ es clock since seen c0, w.heap[b]? = some (.map es clock) ∧ Stamped es clock ∧ es.toList.map (fun e => (e.key, e.val)) = l.map (ent ev) ∧ (∀ p ∈ l, p.1.size ≤ maxLen) ∧
    w.heap[r]? = some (.mapIter (some b) since seen c0) ∧ (∀ x ∈ es.toList, x.born < since) ∧ since ≤ c0 ∧ c0 ≤ clock ∧ (leftOf es seen).toList.map (fun e => (e.key, e.val)) = left.map (ent ev) ∧ ∀ p ∈ left, p ∈ l
theorem RangeAt.map {r : Nat} {left : List (ByteArray × α)} (h : RangeAt ev w b r l left) : MapAt ev w b l := by
  obtain ⟨es, clock, since, seen, c0, h1, h2, h3, h4, -⟩ := h
  exact ⟨es, clock, h1, h2, h3, h4⟩
theorem RangeAt.of_blocks {w' : World} {r : Nat} {left : List (ByteArray × α)} (h : RangeAt ev w b r l left) (h1 : w'.heap[b]? = w.heap[b]?) (h2 : w'.heap[r]? = w.heap[r]?) : RangeAt ev w' b r l left := by
  obtain ⟨es, clock, since, seen, c0, e1, e2, e3, e4, e5, e6⟩ := h
  exact ⟨es, clock, since, seen, c0, h1.trans e1, e2, e3, e4, h2.trans e5, e6⟩
/-- 'range m' ahead of the loop. -/
theorem MapAt.range (h : MapAt ev w b l) (ht : P.underlying t = some (.map k e)) :
    ∃ c, (Instr.range t (.map (some b))).run P w = .ok (.pointer (some ⟨w.heap.size, 0, none⟩)) (w.alloc (.mapIter (some b) c #[] c)) ∧ RangeAt ev (w.alloc (.mapIter (some b) c #[] c)) b w.heap.size l l := by
  have hlt := h.lt
  obtain ⟨es, c, h1, h2, h3, h4⟩ := h
  refine ⟨c, run_range_map w t k e b es c ht h1, es, c, c, #[], c, ?_, h2, h3, h4, ?_, ((stamped_iff es c).1 h2).1, Nat.le_refl _, Nat.le_refl _, ?_⟩
  · rw [Below.heap_alloc _ _ _ hlt]; exact h1
  · exact heap_alloc_new _ _
  · rw [← h3]
    have : leftOf es #[] = es := by unfold leftOf; exact Array.filter_eq_self.2 (fun x _ => by simp)
    rw [this]
    exact ⟨rfl, fun p hp => hp⟩

theorem setBlock_same {w : World} {r : Nat} (o : Obj) (h : r < w.heap.size) : (setBlock w r o).heap[r]? = some o := by
  show (w.heap.setIfInBounds r o)[r]? = _
  simp [h]
theorem setBlock_other {w : World} {r i : Nat} (o : Obj) (h : i ≠ r) : (setBlock w r o).heap[i]? = w.heap[i]? := by
  show (w.heap.setIfInBounds r o)[i]? = _
  rw [Array.getElem?_setIfInBounds_ne (Ne.symm h)]
theorem drop_one {L : List MapEntry} (hn : (L.map (·.born)).Nodup) {j : Nat} {x : MapEntry} (hj : L[j]? = some x) : L.filter (fun y => !(y.born == x.born)) = L.eraseIdx j := by
  induction L generalizing j with
  | nil => simp at hj
  | cons y L ih =>
    obtain ⟨h1, h2⟩ := List.nodup_cons.1 hn
    cases j with
    | zero =>
      simp only [List.getElem?_cons_zero, Option.some.injEq] at hj
      subst hj
      rw [List.filter_cons_of_neg (by simp), List.eraseIdx_cons_zero]
      refine List.filter_eq_self.2 fun z hz => ?_
      have : z.born ≠ y.born := fun e => h1 (List.mem_map.2 ⟨z, hz, e⟩)
      simpa using this
    | succ j =>
      rw [List.getElem?_cons_succ] at hj
      have : y.born ≠ x.born := fun e => h1 (List.mem_map.2 ⟨x, List.mem_of_getElem? hj, e.symm⟩)
      rw [List.filter_cons_of_pos (by simpa using this), List.eraseIdx_cons_succ, ih h2 hj]
theorem leftOf_push (es : Array MapEntry) (seen : Array Nat) (n : Nat) : (leftOf es (seen.push n)).toList = (leftOf es seen).toList.filter fun y => !(y.born == n) := by
  unfold leftOf
  rw [Array.toList_filter, Array.toList_filter, List.filter_filter]
  refine List.filter_congr fun y _ => ?_
  rw [Array.contains_push]
  cases seen.contains y.born <;> cases h : y.born == n <;> simp_all
theorem leftOf_nodup {es : Array MapEntry} {clock : Nat} (h : Stamped es clock) (seen : Array Nat) : ((leftOf es seen).toList.map (·.born)).Nodup := by
  unfold leftOf
  rw [Array.toList_filter]
  exact (((stamped_iff es clock).1 h).2.1).sublist (List.filter_sublist.map _)

/-- The step, and the round's key and value. -/
theorem RangeAt.next {r : Nat} {left : List (ByteArray × α)} (ty : TypeId) (h : RangeAt ev w b r l left) (hbr : b ≠ r) :
    (left = [] ∧ (Instr.next (.pointer (some ⟨r, 0, none⟩)) false ty).run P w = .ok (.tuple #[.bool false]) w) ∨
    ∃ p left' w', (p :: left').Perm left ∧ p ∈ l ∧ (Instr.next (.pointer (some ⟨r, 0, none⟩)) false ty).run P w = .ok (.tuple #[.bool true, .string p.1, ev p.2]) w' ∧ (Instr.entry (.pointer (some ⟨r, 0, none⟩))).run P w' = .ok (.tuple #[.string p.1, ev p.2]) w' ∧ RangeAt ev w' b r l left' ∧ w.grownBy w' (some r) ∧ w'.heap.size = w.heap.size := by
  obtain ⟨es, clock, since, seen, c0, e1, e2, e3, e4, e5, e6, e7, e8, e9, e10⟩ := h
  have hst := (stamped_iff es clock).1 e2
  rcases run_next_at (P := P) w ty r b since c0 seen es clock e5 e1 e6 e7 with ⟨h0, hrun⟩ | ⟨x, hx, w1, hw1, hrun⟩
  · left
    refine ⟨?_, hrun⟩
    have : (leftOf es seen).toList = [] := by
      have : (leftOf es seen) = #[] := Array.eq_empty_of_size_eq_zero h0
      rw [this]
    rw [this] at e9
    simpa using e9.symm
  · right
    obtain ⟨j, hj, hjx⟩ := List.getElem_of_mem hx
    have hj? : (leftOf es seen).toList[j]? = some x := by rw [List.getElem?_eq_getElem hj, hjx]
    have h5 : (left.map (ent ev))[j]? = some (x.key, x.val) := by rw [← e9, List.getElem?_map, hj?]; rfl
    rw [List.getElem?_map] at h5
    obtain ⟨p, hp, ep⟩ := Option.map_eq_some_iff.1 h5
    simp only [ent, Prod.mk.injEq] at ep
    have hlt : j < left.length := (List.getElem?_eq_some_iff.1 hp).1
    have hpj : left[j] = p := (List.getElem?_eq_some_iff.1 hp).2
    have hxm : x ∈ es.toList := by
      have : x ∈ (leftOf es seen) := by simpa using hx
      unfold leftOf at this
      have := (Array.mem_filter.1 this).1
      simpa using this
    have hpm : p ∈ left := List.mem_of_getElem? hp
    have hr1 : w1.heap[r]? = some (.mapIter (some b) since seen c0) := by rcases hw1 with rfl | rfl <;> exact e5
    have hb1 : w1.heap[b]? = some (.map es clock) := by rcases hw1 with rfl | rfl <;> exact e1
    have hrl : r < w1.heap.size := (Array.getElem?_eq_some_iff.1 hr1).1
    have hb2 := (setBlock_other (.mapIter (some b) since (seen.push x.born) clock) hbr).trans hb1
    have hr2 := setBlock_same (.mapIter (some b) since (seen.push x.born) clock) hrl
    have hent := run_entry_at (P := P) _ r b since seen es clock x hr2 hb2 hxm hst.2.1
    have hlo : (leftOf es (seen.push x.born)).toList = (leftOf es seen).toList.eraseIdx j := by rw [leftOf_push, drop_one (leftOf_nodup e2 seen) hj?]
    refine ⟨p, left.eraseIdx j, _, ?_, e10 p hpm, ?_, ?_, ⟨es, clock, since, seen.push x.born, clock, hb2, e2, e3, e4, hr2, e6, Nat.le_trans e7 e8, Nat.le_refl _, ?_, fun q hq => e10 q (List.mem_of_mem_eraseIdx hq)⟩, ?_, ?_⟩
    · have h1 := set_perm left j hlt p
      have h2 : left.set j p = left := by rw [← hpj]; exact List.set_getElem_self ..
      rw [h2] at h1
      exact h1.symm
    · rw [hrun, ep.1, ep.2]
    · rw [hent, ep.1, ep.2]
    · rw [hlo, map_eraseIdx, e9, map_eraseIdx]
    · rcases hw1 with rfl | rfl <;> exact ⟨rfl, rfl, rfl, by simp [setBlock], fun i _ hi => setBlock_other _ (fun e => hi (by rw [e]))⟩
    · rcases hw1 with rfl | rfl <;> simp [setBlock]
end
end Go.Proofs.Ytpjcfepngjpfbaa
