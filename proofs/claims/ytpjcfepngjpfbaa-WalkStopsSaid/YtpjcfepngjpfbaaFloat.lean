/- Operations of a drawn region that may come up in several orders. No program. -/
import Derived.Test.YtpjcfepngjpfbaaTail
import Derived.Below
namespace Go.Proofs.Ytpjcfepngjpfbaa
open Go.RowKit
section
variable {F : Fence} {n : Nat} {P : Program} {ops : Array Oper} {Q : Exit → Act → World → Prop} {S : World → Prop}

/-- All sublists. -/
def subs : List Nat → List (List Nat)
  | [] => [[]]
  | x :: xs => subs xs ++ (subs xs).map (x :: ·)
theorem filter_subs (p : Nat → Bool) : ∀ l : List Nat, l.filter p ∈ subs l
  | [] => by simp [subs]
  | x :: xs => by
    have h := filter_subs p xs
    simp only [subs, List.mem_append, List.mem_map]
    cases hp : p x with
    | true => right; exact ⟨_, h, by simp [List.filter_cons, hp]⟩
    | false => left; simpa [List.filter_cons, hp] using h
def mark (listed : Array Bool) (s : List Nat) : Array Bool := s.foldl (fun l i => l.setIfInBounds i true) listed
theorem mark_size : ∀ (s : List Nat) (l : Array Bool), (mark l s).size = l.size
  | [], _ => rfl
  | x :: s, l => by
    show (mark (l.setIfInBounds x true) s).size = _
    rw [mark_size s, Array.size_setIfInBounds]
theorem mark_get : ∀ (s : List Nat) (l : Array Bool) (i : Nat), (mark l s)[i]? = if i ∈ s ∧ i < l.size then some true else l[i]?
  | [], l, i => by simp [mark]
  | x :: s, l, i => by
    show (mark (l.setIfInBounds x true) s)[i]? = _
    rw [mark_get s, Array.size_setIfInBounds]
    by_cases hs : i ∈ s ∧ i < l.size
    · rw [if_pos hs, if_pos ⟨List.mem_cons_of_mem _ hs.1, hs.2⟩]
    · rw [if_neg hs]
      by_cases hx : x = i
      · subst hx
        by_cases hl : x < l.size
        · rw [Array.getElem?_setIfInBounds_self_of_lt hl, if_pos ⟨List.mem_cons_self .., hl⟩]
        · rw [if_neg (fun h => hl h.2), Array.getElem?_eq_none (by rw [Array.size_setIfInBounds]; omega), Array.getElem?_eq_none (by omega)]
      · rw [Array.getElem?_setIfInBounds_ne hx]
        rw [if_neg]
        rintro ⟨h1, h2⟩
        rcases List.mem_cons.1 h1 with e | e
        · exact hx e.symm
        · exact hs ⟨e, h2⟩
/-- One more of js is marked. -/
theorem mark_step (l : Array Bool) (js : List Nat) (p : Nat → Bool) (i : Nat) (hi : i ∈ js) : (mark l (js.filter p)).setIfInBounds i true = mark l (js.filter fun x => p x || x == i) := by
  apply Array.ext_getElem?
  intro t
  rw [mark_get]
  by_cases ht : i = t
  · subst ht
    by_cases hl : i < l.size
    · rw [Array.getElem?_setIfInBounds_self_of_lt (by rw [mark_size]; exact hl), if_pos]
      exact ⟨by simp [List.mem_filter, hi], hl⟩
    · rw [Array.getElem?_eq_none (by rw [Array.size_setIfInBounds, mark_size]; omega), if_neg (fun h => hl h.2), Array.getElem?_eq_none (by omega)]
  · rw [Array.getElem?_setIfInBounds_ne ht, mark_get]
    have : (t ∈ js.filter fun x => p x || x == i) ↔ t ∈ js.filter p := by
      simp only [List.mem_filter, Bool.or_eq_true, beq_iff_eq]
      constructor
      · rintro ⟨h1, h2 | h2⟩
        · exact ⟨h1, h2⟩
        · exact absurd h2.symm ht
      · rintro ⟨h1, h2⟩; exact ⟨h1, .inl h2⟩
    simp only [this]
theorem filter_more {p : Nat → Bool} {i : Nat} : ∀ {js : List Nat}, i ∈ js → p i = false → (js.filter p).length + 1 ≤ (js.filter fun x => p x || x == i).length
  | x :: js, hi, hp => by
    have hle : ∀ l : List Nat, (l.filter p).length ≤ (l.filter fun x => p x || x == i).length := fun l => by
      induction l with
      | nil => simp
      | cons a l ih =>
        cases ha : p a with
        | true => simp only [List.filter_cons, ha, Bool.true_or, if_true, List.length_cons]; omega
        | false =>
          simp only [List.filter_cons, ha, Bool.false_or, Bool.false_eq_true, if_false]
          split
          · rw [List.length_cons]; omega
          · exact ih
    rcases List.mem_cons.1 hi with rfl | h
    · simp only [List.filter_cons, hp, Bool.false_or, beq_self_eq_true, if_true]
      have := hle js
      simp only [Bool.false_eq_true, if_false, List.length_cons]
      omega
    · have ih := filter_more h hp
      cases ha : p x with
      | true => simp only [List.filter_cons, ha, Bool.true_or, if_true, List.length_cons]; omega
      | false =>
        simp only [List.filter_cons, ha, Bool.false_or, Bool.false_eq_true, if_false]
        split
        · rw [List.length_cons]; omega
        · exact ih

def dstOf (ops : Array Oper) (j : Nat) : Option Tmp := (ops[j]?).bind (·.dst)
def putAll (ops : Array Oper) (vs : Nat → Value) (a : Act) (s : List Nat) : Act := s.foldl (fun a j => a.put (dstOf ops j) (vs j)) a
theorem put_size (a : Act) (d : Option Tmp) (v : Value) : (a.put d v).tmps.size = a.tmps.size := by cases d <;> simp [Act.put]
theorem put_defers (a : Act) (d : Option Tmp) (v : Value) : (a.put d v).defers = a.defers := by cases d <;> rfl
theorem put_get_ne (a : Act) (d : Option Tmp) (v : Value) {t : Tmp} (h : d ≠ some t) : (a.put d v).tmps[t]? = a.tmps[t]? := by
  cases d with
  | none => rfl
  | some d => simp only [Act.put]; exact Array.getElem?_setIfInBounds_ne (fun e => h (by rw [e]))
theorem put_get_eq (a : Act) {d : Tmp} (v : Value) (h : d < a.tmps.size) : (a.put (some d) v).tmps[d]? = some v := by
  simp only [Act.put]; exact Array.getElem?_setIfInBounds_self_of_lt h
theorem putAll_size (vs : Nat → Value) : ∀ (s : List Nat) (a : Act), (putAll ops vs a s).tmps.size = a.tmps.size
  | [], _ => rfl
  | x :: s, a => by show (putAll ops vs (a.put (dstOf ops x) (vs x)) s).tmps.size = _; rw [putAll_size vs s, put_size]
theorem putAll_defers (vs : Nat → Value) : ∀ (s : List Nat) (a : Act), (putAll ops vs a s).defers = a.defers
  | [], _ => rfl
  | x :: s, a => by show (putAll ops vs (a.put (dstOf ops x) (vs x)) s).defers = _; rw [putAll_defers vs s, put_defers]
theorem putAll_ne (vs : Nat → Value) {t : Tmp} : ∀ (s : List Nat) (a : Act), (∀ j ∈ s, dstOf ops j ≠ some t) → (putAll ops vs a s).tmps[t]? = a.tmps[t]?
  | [], _, _ => rfl
  | x :: s, a, h => by
    show (putAll ops vs (a.put (dstOf ops x) (vs x)) s).tmps[t]? = _
    rw [putAll_ne vs s _ (fun j hj => h j (List.mem_cons_of_mem _ hj)), put_get_ne _ _ _ (h x (List.mem_cons_self ..))]
theorem putAll_eq (vs : Nat → Value) {t : Tmp} {j : Nat} : ∀ (s : List Nat) (a : Act), (∀ i ∈ s, dstOf ops i = some t → i = j) → j ∈ s → dstOf ops j = some t → t < a.tmps.size → (putAll ops vs a s).tmps[t]? = some (vs j)
  | x :: s, a, hd, hj, hdj, ht => by
    show (putAll ops vs (a.put (dstOf ops x) (vs x)) s).tmps[t]? = _
    by_cases hs : j ∈ s
    · exact putAll_eq vs s _ (fun i hi => hd i (List.mem_cons_of_mem _ hi)) hs hdj (by rw [put_size]; exact ht)
    · obtain rfl : j = x := by rcases List.mem_cons.1 hj with e | e; exact e; exact absurd e hs
      rw [putAll_ne vs s _ (fun i hi e => hs ((hd i (List.mem_cons_of_mem _ hi) e) ▸ hi)), hdj]
      exact put_get_eq _ _ ht

/-- What of js operation j waits for. -/
def deps (ops : Array Oper) (js : List Nat) (j : Nat) : List Nat := js.filter fun i => anc ops ops.size j i
def looksOk (ops : Array Oper) (js : List Nat) (j : Nat) : Bool := match ops[j]? with
  | none => false
  | some o => (o.looksAt ops).all fun t => js.all fun i => dstOf ops i != some t || (deps ops js j).contains i
def floatOk (ops : Array Oper) (listed : Array Bool) (js : List Nat) (m sz : Nat) : Bool :=
  noDefer ops && Region.noSelect ops &&
  (js.all fun j => looksOk ops js j && (match dstOf ops j with | some d => decide (d < sz) | none => false)) &&
  (js.all fun i => js.all fun j => i == j || dstOf ops i != dstOf ops j) &&
  (subs js).all fun s => !(s.all fun j => (deps ops js j).all s.contains) || if s.length == js.length then lineB ops (ops.size - m) (mark listed s) m && (ops.size == m || bar ops (mark listed s) m)
    else (Region.ready .any ops (mark listed s) != []) && (Region.ready .any ops (mark listed s)).all fun i => js.contains i && !s.contains i && (deps ops js i).all s.contains

/-- One operation, carried out where only what it waits for is known. -/
def StepIn (F : Fence) (n : Nat) (P : Program) (ops : Array Oper) (j : Nat) (K : Act → World → Prop) (a : Act) (w : World) : Prop :=
  ∃ o, ops[j]? = some o ∧ (if Region.wanted o (yielded ops a.tmps) then o.uponIn F n P a K (fun _ _ _ => False) ((execOp a.eval o).run P w) else K (a.put o.dst undef) w)

theorem upon_move {o : Oper} {a b : Act} {d : Tmp} (hd : o.dst = some d) (ha : d < a.tmps.size) {G : Value → World → Prop} {K : Act → World → Prop} (hK : ∀ v w, G v w → K (b.put (some d) v) w) {r : Result Next}
    (h : o.uponIn F n P a (fun x w => ∃ v, x.tmps[d]? = some v ∧ x.defers = a.defers ∧ G v w) (fun _ _ _ => False) r) : o.uponIn F n P b K Q r := by
  have hv : ∀ {v u : Value}, (a.put (some d) v).tmps[d]? = some u → v = u := fun e => by rw [put_get_eq a _ ha] at e; exact Option.some.inj e
  cases r with
  | ok nx w' =>
    cases nx with
    | value v =>
      rw [Oper.uponIn_value, hd] at h ⊢
      obtain ⟨u, h1, -, h2⟩ := h
      rw [hv h1]; exact hK _ _ h2
    | skip =>
      rw [Oper.uponIn_skip, hd] at h ⊢
      obtain ⟨u, h1, -, h2⟩ := h
      rw [hv h1]; exact hK _ _ h2
    | defer dd =>
      rw [Oper.uponIn_defer, hd] at h
      obtain ⟨u, -, h1, -⟩ := h
      exfalso
      have := congrArg List.length h1
      simp [Act.put] at this
    | enter f args =>
      rw [Oper.uponIn_enter] at h ⊢
      refine ⟨h.1, h.2.mono ?_⟩
      intro e w'' hx
      cases e with
      | returned v =>
        obtain ⟨u, h1, -, h2⟩ := (show ∃ v_1, (a.put o.dst v).tmps[d]? = some v_1 ∧ _ ∧ _ from hx)
        rw [hd] at h1
        show K (b.put o.dst v) w''
        rw [hd, hv h1]; exact hK _ _ h2
      | panicked c => exact hx.elim
      | outgrown => exact (show LetsOut (fun _ _ _ => False) from hx).elim fun _ hx => hx.elim fun _ hx => hx.elim
    | row rw' args =>
      rw [Oper.uponIn_row] at h ⊢
      refine ⟨h.1, h.2.mono ?_⟩
      intro v w'' hx
      obtain ⟨u, h1, -, h2⟩ := hx
      rw [hd] at h1 ⊢
      rw [hv h1]; exact hK _ _ h2
    | round l f tmps as_ body =>
      rw [Oper.uponIn_round] at h ⊢
      refine ⟨h.1, h.2.mono ?_⟩
      intro e w'' hx
      cases e with
      | returned v =>
        obtain ⟨u, h1, -, h2⟩ := (show ∃ v_1, (a.put o.dst v).tmps[d]? = some v_1 ∧ _ ∧ _ from hx)
        rw [hd] at h1
        show K (b.put o.dst v) w''
        rw [hd, hv h1]; exact hK _ _ h2
      | panicked c => exact hx.elim
      | outgrown => exact (show LetsOut (fun _ _ _ => False) from hx).elim fun _ hx => hx.elim fun _ hx => hx.elim
    | _ => exact h.elim
  | halt hl w' =>
    cases hl with
    | panic v => exact (show False from h).elim
    | _ => exact h.elim

theorem line_any' : ∀ (k0 k m : Nat) {listed : Array Bool} {a : Act} {w : World}, k0 ≤ k → lineB ops k0 listed m = true → wpListIn F n P ops Q (ops.toList.drop m) a w → wpAnyIn F n P .any ops Q k listed a w
  | 0, k, m, listed, a, w, _, hl, h => by
    simp only [lineB, Bool.and_eq_true, beq_iff_eq] at hl
    obtain ⟨rfl, hr⟩ := hl
    rw [List.drop_of_length_le (by simp)] at h
    cases k with
    | zero => exact ⟨hr, h⟩
    | succ k => exact ⟨fun _ => h, fun i hi => by rw [hr] at hi; cases hi⟩
  | k0 + 1, 0, m, listed, a, w, hk, _, _ => absurd hk (by omega)
  | k0 + 1, k + 1, m, listed, a, w, hk, hl, h => by
    simp only [lineB, Bool.and_eq_true, beq_iff_eq, decide_eq_true_eq] at hl
    obtain ⟨⟨hr, hm⟩, hl⟩ := hl
    refine ⟨fun e => (by rw [hr] at e; cases e), fun i hi => ?_⟩
    rw [hr] at hi
    obtain rfl : i = m := by simpa using hi
    have hd : ops.toList.drop i = ops[i] :: ops.toList.drop (i + 1) := by
      rw [List.drop_eq_getElem_cons (by simpa using hm)]; simp
    rw [hd] at h
    unfold wpOpIn
    rw [Array.getElem?_eq_getElem hm]
    simp only [wpListIn] at h
    show if Region.wanted ops[i] (yielded ops a.tmps) = true then _ else _
    split
    · rename_i hw
      rw [if_pos hw] at h
      exact Oper.wpIn_mono (fun _ _ => line_any' k0 k (i + 1) (by omega) hl) h
    · rename_i hw
      rw [if_neg hw] at h
      exact ⟨h.1, line_any' k0 k (i + 1) (by omega) hl h.2⟩

theorem line_anyH {k0 k m : Nat} {listed : Array Bool} {a : Act} {w : World} (hk : k0 ≤ k) (hl : lineB ops k0 listed m = true) (hb : (ops.size == m || bar ops listed m) = true) (h : wpListIn F n P ops Q (ops.toList.drop m) a w) : AnyH F n P ops Q S k listed a w := by
  cases k0 with
  | zero =>
    simp only [lineB, Bool.and_eq_true, beq_iff_eq] at hl
    obtain ⟨rfl, hr⟩ := hl
    rw [List.drop_of_length_le (by simp)] at h
    exact AnyH.done hr h
  | succ k0 =>
    obtain ⟨k, rfl⟩ : ∃ k', k = k' + 1 := ⟨k - 1, by omega⟩
    have hl0 := hl
    simp only [lineB, Bool.and_eq_true, beq_iff_eq, decide_eq_true_eq] at hl
    obtain ⟨⟨hr, hm⟩, hl⟩ := hl
    have hb : bar ops listed m = true := by
      simp only [Bool.or_eq_true, beq_iff_eq] at hb
      rcases hb with e | e
      · omega
      · exact e
    refine ⟨fun e => (by rw [hr] at e; cases e), fun i hi => ?_⟩
    have hx := (line_any' (k0 + 1) (k + 1) m hk hl0 h).2 i hi
    rw [hr] at hi
    obtain rfl : i = m := by simpa using hi
    exact wpOpIn_mono (fun _ _ x => .inr ⟨hb, x⟩) hx

/-- What is known where some of js have come up. -/
structure FJ (ops : Array Oper) (js : List Nat) (PP : Nat → Value → World → Prop) (al : Nat → Bool) (a0 : Act) (p : Nat → Bool) (vs : Nat → Value) (a : Act) (w : World) : Prop where
  defers : a.defers = a0.defers
  size : a.tmps.size = a0.tmps.size
  other : ∀ t : Tmp, (∀ j ∈ js, p j = true → dstOf ops j ≠ some t) → a.tmps[t]? = a0.tmps[t]?
  own : ∀ j ∈ js, p j = true → ∀ t : Tmp, dstOf ops j = some t → a.tmps[t]? = some (vs j)
  hP : ∀ j ∈ js, p j = true → PP j (vs j) w
  dist : ∀ i ∈ js, ∀ j ∈ js, p i = true → p j = true → al i = true → al j = true → i ≠ j → vs i ≠ vs j
  down : ∀ j ∈ js, p j = true → ∀ i ∈ deps ops js j, p i = true
theorem FJ.closed {ops : Array Oper} {js : List Nat} {PP : Nat → Value → World → Prop} {al : Nat → Bool} {a0 : Act} {p : Nat → Bool} {vs : Nat → Value} {a : Act} {w : World} (h : FJ ops js PP al a0 p vs a w) :
    ((js.filter p).all fun j => (deps ops js j).all (js.filter p).contains) = true := by
  rw [List.all_eq_true]
  intro j hj
  obtain ⟨h1, h2⟩ := List.mem_filter.1 hj
  rw [List.all_eq_true]
  intro i hi
  simp only [List.contains_iff_mem, List.mem_filter]
  exact ⟨(List.mem_filter.1 hi).1, h.down j h1 h2 i hi⟩

theorem act_ext {a b : Act} (h1 : ∀ t : Nat, a.tmps[t]? = b.tmps[t]?) (h2 : a.defers = b.defers) : a = b := by
  obtain ⟨t1, d1⟩ := a; obtain ⟨t2, d2⟩ := b
  simp only at h1 h2
  have := Array.ext_getElem? h1
  subst this h2; rfl

theorem AnyH.float {l : List Oper} (js : List Nat) (m : Nat) (PP : Nat → Value → World → Prop) (al : Nat → Bool) {k : Nat} {listed : Array Bool} {a : Act} {w : World}
    (hc : floatOk l.toArray listed js m a.tmps.size = true) (hk : js.length + (l.toArray.size - m) ≤ k) (hF : ∀ f, F.fn f) (hS : S w)
    (hmono : ∀ j ∈ js, ∀ v w w', PP j v w → Below w.heap.size w w' → PP j v w')
    (hbox : ∀ j ∈ js, al j = true → ∀ v w, PP j v w → ∃ B, v = .pointer (some ⟨B, 0, none⟩) ∧ B < w.heap.size)
    (hstep : ∀ j ∈ js, ∀ vs w, S w → (∀ i ∈ deps l.toArray js j, PP i (vs i) w) → ∀ K : Act → World → Prop, (∀ v w', S w' → Below w.heap.size w w' → PP j v w' → (al j = true → v = .pointer (some ⟨w.heap.size, 0, none⟩)) → K ((putAll l.toArray vs a (deps l.toArray js j)).put (dstOf l.toArray j) v) w') → StepIn F n P l.toArray j K (putAll l.toArray vs a (deps l.toArray js j)) w)
    (htail : ∀ vs w, S w → (∀ j ∈ js, PP j (vs j) w) → (∀ i ∈ js, ∀ j ∈ js, al i = true → al j = true → i ≠ j → vs i ≠ vs j) → wpListIn F n P l.toArray Q (l.drop m) (putAll l.toArray vs a js) w) :
    AnyH F n P l.toArray Q S k listed a w := by
  simp only [floatOk, Bool.and_eq_true] at hc
  obtain ⟨⟨⟨⟨hnd, hns⟩, hl⟩, hdd⟩, hsub⟩ := hc
  have hlook : ∀ j ∈ js, looksOk l.toArray js j = true := fun j hj => by
    have := List.all_eq_true.1 hl j hj; simp only [Bool.and_eq_true] at this; exact this.1
  have hdst : ∀ j ∈ js, ∃ d, dstOf l.toArray j = some d ∧ d < a.tmps.size := fun j hj => by
    have := List.all_eq_true.1 hl j hj; simp only [Bool.and_eq_true] at this
    have h2 := this.2
    cases hd : dstOf l.toArray j with
    | none => rw [hd] at h2; cases h2
    | some d => rw [hd] at h2; exact ⟨d, rfl, by simpa using h2⟩
  have hne : ∀ i ∈ js, ∀ j ∈ js, i ≠ j → dstOf l.toArray i ≠ dstOf l.toArray j := fun i hi j hj hij => by
    have := List.all_eq_true.1 (List.all_eq_true.1 hdd i hi) j hj
    simpa [hij] using this
  suffices H : ∀ (k : Nat) (p : Nat → Bool) (vs : Nat → Value) (b : Act) (w : World), FJ l.toArray js PP al a p vs b w → S w → (js.length - (js.filter p).length) + (l.toArray.size - m) ≤ k → AnyH F n P l.toArray Q S k (mark listed (js.filter p)) b w by
    have hf : js.filter (fun _ => false) = [] := List.filter_eq_nil_iff.2 (fun _ _ h => by cases h)
    have h0 := H k (fun _ => false) (fun _ => undef) a w ⟨rfl, rfl, fun _ _ => rfl, fun _ _ h => (by cases h), fun _ _ h => (by cases h), fun _ _ _ _ h => (by cases h), fun _ _ h => (by cases h)⟩ hS (by rw [hf]; simpa using hk)
    rw [hf] at h0
    exact h0
  have hfin : ∀ (k : Nat) (p : Nat → Bool) (vs : Nat → Value) (b : Act) (w : World), FJ l.toArray js PP al a p vs b w → S w → l.toArray.size - m ≤ k → (js.filter p).length = js.length → AnyH F n P l.toArray Q S k (mark listed (js.filter p)) b w := by
    intro k p vs b w hJ hS hk hall
    have hp : ∀ j ∈ js, p j = true := fun j hj => List.length_filter_eq_length_iff.1 hall j hj
    have hc := List.all_eq_true.1 hsub _ (filter_subs p js)
    rw [hJ.closed, Bool.not_true, Bool.false_or] at hc
    rw [if_pos (by simpa using hall)] at hc
    simp only [Bool.and_eq_true] at hc
    have hb : b = putAll l.toArray vs a js := by
      apply act_ext
      · intro t
        by_cases ht : ∃ j ∈ js, dstOf l.toArray j = some t
        · obtain ⟨j, hj, hd⟩ := ht
          obtain ⟨d, hd2, hlt⟩ := hdst j hj
          have e : d = t := by rw [hd] at hd2; exact (Option.some.inj hd2).symm
          subst e
          rw [hJ.own j hj (hp j hj) d hd, putAll_eq vs js a (fun i hi e => by
            by_cases h : i = j
            · exact h
            · exact absurd (e.trans hd.symm) (hne i hi j hj h)) hj hd hlt]
        · rw [hJ.other t (fun j hj _ e => ht ⟨j, hj, e⟩), putAll_ne vs js a (fun j hj e => ht ⟨j, hj, e⟩)]
      · rw [hJ.defers, putAll_defers]
    subst hb
    refine line_anyH hk hc.1 hc.2 ?_
    have := htail vs w hS (fun j hj => hJ.hP j hj (hp j hj)) (fun i hi j hj h1 h2 h3 => hJ.dist i hi j hj (hp i hi) (hp j hj) h1 h2 h3)
    simpa using this
  intro k
  induction k with
  | zero =>
    intro p vs b w hJ hS hk
    exact hfin 0 p vs b w hJ hS (by omega) (Nat.le_antisymm (List.length_filter_le _ _) (by omega))
  | succ k ih =>
    intro p vs b w hJ hS hk
    by_cases hall : (js.filter p).length = js.length
    · exact hfin (k + 1) p vs b w hJ hS (by omega) hall
    have hc := List.all_eq_true.1 hsub _ (filter_subs p js)
    rw [hJ.closed, Bool.not_true, Bool.false_or] at hc
    rw [if_neg (by simpa using hall)] at hc
    simp only [Bool.and_eq_true, bne_iff_ne, ne_eq] at hc
    refine ⟨fun e => absurd e hc.1, fun i hi => ?_⟩
    have hci := List.all_eq_true.1 hc.2 i hi
    simp only [Bool.and_eq_true] at hci
    have hij : i ∈ js := by simpa using hci.1.1
    have hip : p i = false := by
      have h := hci.1.2
      cases hpi : p i with
      | false => rfl
      | true => simp [List.mem_filter, hij, hpi] at h
    have hdp : ∀ j ∈ deps l.toArray js i, p j = true := fun j hj => by
      have h := List.all_eq_true.1 hci.2 j hj
      simp only [List.contains_iff_mem, List.mem_filter] at h
      exact h.2
    have hdj : ∀ j ∈ deps l.toArray js i, j ∈ js := fun j hj => (List.mem_filter.1 hj).1
    obtain ⟨d, hd, hds⟩ := hdst i hij
    let aj := putAll l.toArray vs a (deps l.toArray js i)
    have hajs : aj.tmps.size = a.tmps.size := putAll_size vs _ a
    have hK := hstep i hij vs w hS (fun j hj => hJ.hP j (hdj j hj) (hdp j hj)) (fun x w'' => ∃ v, x.tmps[d]? = some v ∧ x.defers = aj.defers ∧ (S w'' ∧ Below w.heap.size w w'' ∧ PP i v w'' ∧ (al i = true → v = .pointer (some ⟨w.heap.size, 0, none⟩))))
      (fun v w' h1 h2 h3 h4 => ⟨v, by rw [hd]; exact put_get_eq _ _ (by rw [putAll_size]; exact hds), by rw [put_defers], h1, h2, h3, h4⟩)
    obtain ⟨o, ho, hif⟩ := hK
    have hod : o.dst = some d := by have := hd; unfold dstOf at this; rw [ho] at this; exact this
    have hag : ∀ t ∈ o.looksAt l.toArray, b.tmps[t]? = aj.tmps[t]? := fun t ht => by
      have hlk := hlook i hij
      unfold looksOk at hlk
      rw [ho] at hlk
      have h := List.all_eq_true.1 hlk t ht
      by_cases hx : ∃ j ∈ js, dstOf l.toArray j = some t
      · obtain ⟨j, hj, hdt⟩ := hx
        have h2 := List.all_eq_true.1 h j hj
        have hjd : j ∈ deps l.toArray js i := by simpa [hdt] using h2
        obtain ⟨d', hd', hlt⟩ := hdst j hj
        have e : d' = t := by rw [hdt] at hd'; exact (Option.some.inj hd').symm
        subst e
        rw [hJ.own j hj (hdp j hjd) _ hdt]
        exact (putAll_eq vs _ a (fun x hx e => by
          by_cases h : x = j
          · exact h
          · exact absurd (e.trans hdt.symm) (hne x (hdj x hx) j hj h)) hjd hdt hlt).symm
      · rw [hJ.other t (fun j hj _ e => hx ⟨j, hj, e⟩)]
        exact (putAll_ne vs _ a (fun j hj e => hx ⟨j, hdj j hj, e⟩)).symm
    have hwant : Region.wanted o (yielded l.toArray b.tmps) = Region.wanted o (yielded l.toArray aj.tmps) := by
      unfold Region.wanted
      cases hg : o.guard with
      | none => rfl
      | some gw =>
        obtain ⟨g, want⟩ := gw
        have hy : yielded l.toArray b.tmps g = yielded l.toArray aj.tmps g := by
          unfold yielded
          cases ht : (l.toArray[g]?).bind (·.dst) with
          | none => rfl
          | some t =>
            have := hag t (by simp only [Oper.looksAt, hg, ht]; simp)
            simp only [Option.bind_some, this]
        simp only [hy]
    have hexec : execOp b.eval o = execOp aj.eval o := by
      refine execOp_congr o (fun cs b' => Region.noSelect_spec hns _ _ cs b' ho) (fun x hx => ?_)
      cases x with
      | tmp t =>
        have := hag t (List.mem_append_left _ (List.mem_filterMap.2 ⟨.tmp t, by simpa using hx, rfl⟩))
        show b.tmps.getD t undef = aj.tmps.getD t undef
        rw [Array.getD_eq_getD_getElem?, Array.getD_eq_getD_getElem?, this]
      | _ => rfl
    have hnext : ∀ (v : Value) (w'' : World), (S w'' ∧ Below w.heap.size w w'' ∧ PP i v w'' ∧ (al i = true → v = .pointer (some ⟨w.heap.size, 0, none⟩))) →
        (S w'' ∧ AnyH F n P l.toArray Q S k ((mark listed (js.filter p)).setIfInBounds i true) (b.put (some d) v) w'') ∨
        (bar l.toArray (mark listed (js.filter p)) i = true ∧ wpAnyIn F n P .any l.toArray Q k ((mark listed (js.filter p)).setIfInBounds i true) (b.put (some d) v) w'') := by
      intro v w'' ⟨h1, h2, h3, h4⟩
      left
      refine ⟨h1, ?_⟩
      rw [mark_step listed js p i hij]
      refine ih (fun x => p x || x == i) (fun x => if x = i then v else vs x) _ w'' ?_ h1 ?_
      · refine ⟨by rw [put_defers, hJ.defers], by rw [put_size, hJ.size], ?_, ?_, ?_, ?_, ?_⟩
        · intro t ht
          rw [put_get_ne _ _ _ (fun e => ht i hij (by simp) (hd.trans e)), hJ.other t (fun j hj hpj => ht j hj (by simp [hpj]))]
        · intro j hj hpj t hdt
          by_cases e : j = i
          · subst e
            have e2 : d = t := by rw [hd] at hdt; exact Option.some.inj hdt
            subst e2
            rw [put_get_eq _ _ (by rw [hJ.size]; exact hds), if_pos rfl]
          · have hpj' : p j = true := by simpa [e] using hpj
            rw [put_get_ne _ _ _ (fun e2 => hne j hj i hij e (hdt.trans (e2.symm.trans hd.symm))), hJ.own j hj hpj' t hdt, if_neg e]
        · intro j hj hpj
          by_cases e : j = i
          · subst e; rw [if_pos rfl]; exact h3
          · have hpj' : p j = true := by simpa [e] using hpj
            rw [if_neg e]; exact hmono j hj _ _ _ (hJ.hP j hj hpj') h2
        · intro x hx y hy hpx hpy hax hay hxy
          by_cases ex : x = i
          · have ey : ¬ y = i := fun e => hxy (ex.trans e.symm)
            have hpy' : p y = true := by simpa [ey] using hpy
            subst ex
            rw [if_pos rfl, if_neg ey, h4 hax]
            obtain ⟨B, hB, hlt⟩ := hbox y hy hay _ _ (hJ.hP y hy hpy')
            rw [hB]
            intro e; injection e with e; injection e with e; injection e with e; omega
          · by_cases ey : y = i
            · have hpx' : p x = true := by simpa [ex] using hpx
              subst ey
              rw [if_neg ex, if_pos rfl, h4 hay]
              obtain ⟨B, hB, hlt⟩ := hbox x hx hax _ _ (hJ.hP x hx hpx')
              rw [hB]
              intro e; injection e with e; injection e with e; injection e with e; omega
            · rw [if_neg ex, if_neg ey]
              exact hJ.dist x hx y hy (by simpa [ex] using hpx) (by simpa [ey] using hpy) hax hay hxy
        · intro j hj hpj x hx
          by_cases e : j = i
          · subst e; simp [hdp x hx]
          · have hpj' : p j = true := by simpa [e] using hpj
            simp [hJ.down j hj hpj' x hx]
      · have := filter_more (p := p) hij hip
        have := List.length_filter_le p js
        omega
    unfold wpOpIn
    rw [ho]
    show if Region.wanted o (yielded l.toArray b.tmps) = true then _ else _
    rw [hwant]
    split
    · rename_i hw
      rw [if_pos hw] at hif
      refine ⟨fun f _ => hF f, ?_⟩
      rw [Oper.semAt_eq _ _ _ (noDefer_spec hnd _ _ ho), hexec]
      exact upon_move hod (by rw [hajs]; exact hds) hnext hif
    · rename_i hw
      rw [if_neg hw] at hif
      refine ⟨fun f _ => hF f, ?_⟩
      obtain ⟨v, hv, -, hx⟩ := hif
      rw [hod] at hv ⊢
      rw [put_get_eq _ _ (by rw [hajs]; exact hds)] at hv
      rw [Option.some.inj hv]
      exact hnext _ _ hx

def putL (ds : Nat → Tmp) (vs : Nat → Value) (a : Act) (s : List Nat) : Act := s.foldl (fun a j => a.put (some (ds j)) (vs j)) a
theorem putAll_L {ds : Nat → Tmp} (vs : Nat → Value) : ∀ (s : List Nat) (a : Act), (∀ j ∈ s, dstOf ops j = some (ds j)) → putAll ops vs a s = putL ds vs a s
  | [], _, _ => rfl
  | x :: s, a, h => by
    show putAll ops vs (a.put (dstOf ops x) (vs x)) s = putL ds vs (a.put (some (ds x)) (vs x)) s
    rw [h x (List.mem_cons_self ..)]
    exact putAll_L vs s _ (fun j hj => h j (List.mem_cons_of_mem _ hj))
/-- The same with the tables written out: dl, what each of js waits for; ds, where each lays what it gives. -/
theorem AnyH.floatL {l : List Oper} (js : List Nat) (m : Nat) (dl : Nat → List Nat) (ds : Nat → Tmp) (PP : Nat → Value → World → Prop) (al : Nat → Bool) {k : Nat} {listed : Array Bool} {a : Act} {w : World}
    (hc : floatOk l.toArray listed js m a.tmps.size = true) (hdl : (js.all fun j => deps l.toArray js j == dl j && dstOf l.toArray j == some (ds j)) = true) (hk : js.length + (l.toArray.size - m) ≤ k) (hF : ∀ f, F.fn f) (hS : S w)
    (hmono : ∀ j ∈ js, ∀ v w w', PP j v w → Below w.heap.size w w' → PP j v w')
    (hbox : ∀ j ∈ js, al j = true → ∀ v w, PP j v w → ∃ B, v = .pointer (some ⟨B, 0, none⟩) ∧ B < w.heap.size)
    (hstep : ∀ j ∈ js, ∀ vs w, S w → (∀ i ∈ dl j, PP i (vs i) w) → ∀ K : Act → World → Prop, (∀ v w', S w' → Below w.heap.size w w' → PP j v w' → (al j = true → v = .pointer (some ⟨w.heap.size, 0, none⟩)) → K ((putL ds vs a (dl j)).put (some (ds j)) v) w') → StepIn F n P l.toArray j K (putL ds vs a (dl j)) w)
    (htail : ∀ vs w, S w → (∀ j ∈ js, PP j (vs j) w) → (∀ i ∈ js, ∀ j ∈ js, al i = true → al j = true → i ≠ j → vs i ≠ vs j) → wpListIn F n P l.toArray Q (l.drop m) (putL ds vs a js) w) :
    AnyH F n P l.toArray Q S k listed a w := by
  have h1 : ∀ j ∈ js, deps l.toArray js j = dl j := fun j hj => by
    have := List.all_eq_true.1 hdl j hj; simp only [Bool.and_eq_true, beq_iff_eq] at this; exact this.1
  have h2 : ∀ j ∈ js, dstOf l.toArray j = some (ds j) := fun j hj => by
    have := List.all_eq_true.1 hdl j hj; simp only [Bool.and_eq_true, beq_iff_eq] at this; exact this.2
  have h3 : ∀ j ∈ js, ∀ i ∈ deps l.toArray js j, dstOf l.toArray i = some (ds i) := fun j _ i hi => h2 i (List.mem_filter.1 hi).1
  refine AnyH.float js m PP al hc hk hF hS hmono hbox ?_ ?_
  · intro j hj vs w hS hP K hK
    rw [putAll_L vs _ a (h3 j hj), h1 j hj]
    refine hstep j hj vs w hS (by rw [← h1 j hj]; exact hP) K ?_
    intro v w' a1 a2 a3 a4
    have := hK v w' a1 a2 a3 a4
    rwa [putAll_L vs _ a (h3 j hj), h1 j hj, h2 j hj] at this
  · intro vs w hS hP hD
    rw [putAll_L vs _ a h2]
    exact htail vs w hS hP hD
theorem StepIn.mk {j : Nat} {o : Oper} {K : Act → World → Prop} {a : Act} {w : World} (ho : ops[j]? = some o) (hw : Region.wanted o (yielded ops a.tmps) = true) (h : o.uponIn F n P a K (fun _ _ _ => False) ((execOp a.eval o).run P w)) : StepIn F n P ops j K a w :=
  ⟨o, ho, by rw [if_pos hw]; exact h⟩
end
end Go.Proofs.Ytpjcfepngjpfbaa
