/- A region that draws its order, inside a fence: what gives its value in every world of S is taken first; S is shown behind each operation that is carried out. After the library's Orders, OrdersHeld and OrdersIn, put together. -/
import Derived.OrdersHeld
import Derived.OrdersIn
import Derived.RegionTactic
import Derived.Laws.World
namespace Go.Proofs.Ytpjcfepngjpfbaa

section
variable {F : Fence} {n : Nat} {P : Program} {ops : Array Oper} {Q : Exit → Act → World → Prop} {S : World → Prop}

/-- j waits for i, by at most k edges. -/
def anc (ops : Array Oper) : Nat → Nat → Nat → Bool
  | 0, _, _ => false
  | k + 1, j, i => match ops[j]? with
    | none => false
    | some o => o.after.any fun e => Region.binds .any e && (e.on == i || anc ops k e.on i)
/-- What is listed, all that it waits for is listed. -/
def Down (ops : Array Oper) (listed : Array Bool) : Prop := ∀ (j : Nat) (o : Oper), ops[j]? = some o → listed.getD j true = true → ∀ e ∈ o.after, Region.binds .any e = true → listed.getD e.on false = true
/-- Number i waits for all that is listed. -/
def bar (ops : Array Oper) (listed : Array Bool) (i : Nat) : Bool := (List.range ops.size).all fun j => !listed.getD j true || anc ops ops.size i j

theorem anc_listed {listed : Array Bool} (hd : Down ops listed) : ∀ (k j i : Nat), anc ops k j i = true → listed.getD j true = true → listed.getD i false = true
  | 0, _, _, h, _ => by cases h
  | k + 1, j, i, h, hj => by
    unfold anc at h
    split at h
    · cases h
    · rename_i o ho
      obtain ⟨e, he, h⟩ := Array.any_eq_true'.1 h
      simp only [Bool.and_eq_true, Bool.or_eq_true, beq_iff_eq] at h
      have h1 := hd j o ho hj e he h.1
      rcases h.2 with rfl | h2
      · exact h1
      · refine anc_listed hd k e.on i h2 ?_
        rw [Array.getD_eq_getD_getElem?] at h1 ⊢
        cases hx : listed[e.on]? with
        | none => rfl
        | some x => rw [hx] at h1; exact h1
theorem anc_not_ready {listed : Array Bool} (hd : Down ops listed) {k j i : Nat} (h : anc ops k j i = true) (hi : listed.getD i true = false) (hi2 : i < listed.size) : j ∉ Region.ready .any ops listed := by
  intro hr
  obtain ⟨_, o, ho, hall⟩ := mem_ready.1 hr
  have hi3 : listed.getD i false = false := by
    rw [Array.getD_eq_getD_getElem?] at hi ⊢
    rw [Array.getElem?_eq_getElem hi2] at hi ⊢
    exact hi
  cases k with
  | zero => cases h
  | succ k =>
    unfold anc at h
    rw [ho] at h
    obtain ⟨e, he, h⟩ := Array.any_eq_true'.1 h
    simp only [Bool.and_eq_true, Bool.or_eq_true, beq_iff_eq] at h
    have h1 := hall e he h.1
    rcases h.2 with rfl | h2
    · rw [h1] at hi3; cases hi3
    · have h1' : listed.getD e.on true = true := by
        rw [Array.getD_eq_getD_getElem?] at h1 ⊢
        cases hx : listed[e.on]? with
        | none => rfl
        | some x => rw [hx] at h1; exact h1
      have := anc_listed hd k e.on i h2 h1'
      rw [this] at hi3; cases hi3
theorem Down.set {listed : Array Bool} (hd : Down ops listed) {j : Nat} (hr : j ∈ Region.ready .any ops listed) : Down ops (listed.setIfInBounds j true) := by
  intro m o hm hl e he hb
  have mono : listed.getD e.on false = true → (listed.setIfInBounds j true).getD e.on false = true := fun h => by
    by_cases x : j = e.on
    · rw [x]
      have hlt : e.on < listed.size := by
        rcases Nat.lt_or_ge e.on listed.size with h' | h'
        · exact h'
        · rw [Array.getD_eq_getD_getElem?, Array.getElem?_eq_none h'] at h; cases h
      simp [hlt]
    · rw [getD_set_ne false x]; exact h
  by_cases x : j = m
  · subst x
    obtain ⟨_, o', ho', hall⟩ := mem_ready.1 hr
    rw [ho'] at hm; cases hm
    exact mono (hall e he hb)
  · rw [getD_set_ne true x] at hl
    exact mono (hd m o hm hl e he hb)
theorem down_start : Down ops (Array.replicate ops.size false) := by
  intro j o hj hl
  have : j < ops.size := (Array.getElem?_eq_some_iff.1 hj).1
  simp [this] at hl

/-- Whatever order is drawn from here on; S holds behind each operation, or the operation waits for all that has come up (then nothing that has come up could have come later). -/
def AnyH (F : Fence) (n : Nat) (P : Program) (ops : Array Oper) (Q : Exit → Act → World → Prop) (S : World → Prop) : Nat → Array Bool → Act → World → Prop
  | 0, listed, a, w => Region.ready .any ops listed = [] ∧ Q .normal a w
  | k + 1, listed, a, w => (Region.ready .any ops listed = [] → Q .normal a w) ∧
      ∀ i ∈ Region.ready .any ops listed, wpOpIn F n P ops Q i (fun a' w' => (S w' ∧ AnyH F n P ops Q S k (listed.setIfInBounds i true) a' w') ∨
        (bar ops listed i = true ∧ wpAnyIn F n P .any ops Q k (listed.setIfInBounds i true) a' w')) a w

theorem AnyH.any : ∀ (k : Nat) {listed : Array Bool} {a : Act} {w : World}, AnyH F n P ops Q S k listed a w → wpAnyIn F n P .any ops Q k listed a w
  | 0, _, _, _, h => h
  | k + 1, _, _, _, h => ⟨h.1, fun i hi => wpOpIn_mono (fun _ _ x => x.elim (fun y => AnyH.any k y.2) (fun y => y.2)) (h.2 i hi)⟩

theorem gives_op (hF : ∀ f, F.fn f) {i : Nat} {o : Oper} {v : Value} {a : Act} (hro : F.round = none ∨ ∀ c, o.op ≠ .defer c) (hi : ops[i]? = some o) (hy : YieldsIf P ops S o v a) {K : Act → World → Prop} {w : World} (hS : S w) (h : K (a.put o.dst v) w) : wpOpIn F n P ops Q i K a w := by
  have hab : ∀ f, o.about P w a.eval = some f → F.fn f := fun f _ => hF f
  have hsem : o.semAt F.round a.eval = execOp a.eval o := by
    rcases hro with h | h
    · rw [h]; rfl
    · exact Oper.semAt_eq _ _ _ h
  unfold wpOpIn
  rw [hi]
  rcases hy with ⟨hw, hv⟩ | ⟨hw, rfl⟩
  · simp only [hw, if_true, Oper.wpIn, hsem, hv w hS, Oper.uponIn]; exact ⟨hab, h⟩
  · simp only [hw, Bool.false_eq_true, if_false]; exact ⟨hab, h⟩

/-- A put that the operation does not look at. -/
theorem gives_put {o : Oper} {v : Value} {a : Act} (hy : YieldsIf P ops S o v a) (hs : ∀ cs b, o.op ≠ .select cs b) (dst : Option Tmp) (u : Value) (h : ∀ d, dst = some d → d ∉ o.looksAt ops) : YieldsIf P ops S o v (a.put dst u) :=
  hy.of_same (execOp_put o hs a dst u h) (wanted_put o a dst u h)

/-- An operation apart from one that gives its value: it does not matter which comes first. -/
theorem apart_swap (hF : ∀ f, F.fn f) {j : Nat} {oi oj : Oper} {v : Value} (hnd : F.round = none ∨ ∀ c, oj.op ≠ .defer c) (hj : ops[j]? = some oj) (hap : oi.apart ops oj = true) (hsi : ∀ cs b, oi.op ≠ .select cs b) (hsj : ∀ cs b, oj.op ≠ .select cs b)
    (hQ : ∀ c a w, Q (.panic c) (a.put oi.dst v) w → Q (.panic c) a w) {K : Act → World → Prop} {a : Act} {w : World} (hy : YieldsIf P ops S oi v a) (h : wpOpIn F n P ops Q j K (a.put oi.dst v) w) :
    wpOpIn F n P ops Q j (fun a' w' => YieldsIf P ops S oi v a' ∧ K (a'.put oi.dst v) w') a w := by
  obtain ⟨h1, h2, h3⟩ := Oper.apart_spec hap
  have hk : ∀ u, YieldsIf P ops S oi v (a.put oj.dst u) := fun u => gives_put hy hsi oj.dst u h3
  have hkd : ∀ d u, YieldsIf P ops S oi v (({ a with defers := d :: a.defers } : Act).put oj.dst u) := fun d u =>
    gives_put (a := { a with defers := d :: a.defers }) (hy.of_same rfl rfl) hsi oj.dst u h3
  have hsem : ∀ a : Act, oj.semAt F.round a.eval = execOp a.eval oj := fun a => by
    rcases hnd with h | h
    · rw [h]; rfl
    · exact Oper.semAt_eq _ _ _ h
  have hcomm : ∀ u, (a.put oi.dst v).put oj.dst u = (a.put oj.dst u).put oi.dst v := fun u => (Act.put_comm a v u h2)
  unfold wpOpIn at *
  rw [hj] at *
  dsimp only at *
  rw [wanted_put oj a oi.dst v h1] at h
  by_cases hw : Region.wanted oj (yielded ops a.tmps) = true
  · rw [if_pos hw] at h ⊢
    unfold Oper.wpIn at *
    rw [hsem, execOp_put oj hsj a oi.dst v h1] at h
    rw [hsem]
    refine ⟨fun f _ => hF f, ?_⟩
    have h' := h.2
    clear h
    revert h'
    generalize (execOp a.eval oj).run P w = r
    intro h'
    cases r with
    | halt x w' => cases x <;> first | exact h' | exact hQ _ _ _ h'
    | ok x w' =>
      cases x <;> first
        | exact h'
        | (refine ⟨hk _, ?_⟩; have e := h'; simp only [Oper.uponIn] at e; rw [hcomm] at e; exact e)
        | (refine ⟨hkd _ _, ?_⟩
           have e := h'
           simp only [Oper.uponIn] at e
           rw [← Act.put_comm _ v undef h2, ← Act.put_defers]
           exact e)
        | exact ⟨h'.1, CallsIn.mono h'.2 fun e w'' he => by
            cases e with
            | returned u => exact ⟨hk u, by rw [← hcomm]; exact he⟩
            | panicked c => exact hQ _ _ _ he
            | outgrown => exact he⟩
        | exact ⟨h'.1, RowsIn.mono h'.2 fun u w'' he => ⟨hk u, by rw [← hcomm]; exact he⟩⟩
        | exact ⟨h'.1, RoundIn.mono h'.2 fun e w'' he => by
            cases e with
            | returned u => exact ⟨hk u, by rw [← hcomm]; exact he⟩
            | panicked c => exact hQ _ _ _ he
            | outgrown => exact he⟩
  · rw [if_neg hw] at h ⊢
    exact ⟨fun f _ => hF f, hk _, by rw [← hcomm]; exact h.2⟩

theorem AnyH.first (hF : ∀ f, F.fn f) {i : Nat} {oi : Oper} {v : Value} (hnd : F.round = none ∨ ∀ (j : Nat) (o : Oper), ops[j]? = some o → ∀ c, o.op ≠ .defer c) (hi : ops[i]? = some oi) (hsel : ∀ (j : Nat) (o : Oper) cs b, ops[j]? = some o → o.op ≠ .select cs b) (hQ : ∀ c a w, Q (.panic c) (a.put oi.dst v) w → Q (.panic c) a w) :
    ∀ (k : Nat) (listed : Array Bool) (a : Act) (w : World),
      Down ops listed → (∀ j oj, ops[j]? = some oj → j ≠ i → listed.getD j true = false → (∀ e ∈ oj.after, Region.binds .any e = true → e.on ≠ i) → oi.apart ops oj = true) →
      i ∈ Region.ready .any ops listed → YieldsIf P ops S oi v a → S w → AnyH F n P ops Q S k (listed.setIfInBounds i true) (a.put oi.dst v) w → AnyH F n P ops Q S (k + 1) listed a w := by
  have hnd' : ∀ (j : Nat) (o : Oper), ops[j]? = some o → (F.round = none ∨ ∀ c, o.op ≠ .defer c) := fun j o hj => hnd.imp id fun h => h j o hj
  intro k
  induction k with
  | zero =>
    intro listed a w hdn _ hr hy hS H
    refine ⟨fun h => absurd (h ▸ hr) (by simp), fun j hj => ?_⟩
    by_cases e : j = i
    · subst e; exact gives_op hF (hnd' _ _ hi) hi hy hS (.inl ⟨hS, H⟩)
    · have := ready_mono hj e
      rw [H.1] at this; cases this
  | succ k ih =>
    intro listed a w hdn hfree hr hy hS H
    refine ⟨fun h => absurd (h ▸ hr) (by simp), fun j hj => ?_⟩
    by_cases e : j = i
    · subst e; exact gives_op hF (hnd' _ _ hi) hi hy hS (.inl ⟨hS, H⟩)
    obtain ⟨hun, oj, hoj, hall⟩ := mem_ready.1 hj
    have hnot : ∀ e ∈ oj.after, Region.binds .any e = true → e.on ≠ i := fun e he hb heq => by
      have x1 := hall e he hb
      have x0 := (mem_ready.1 hr).1
      rw [heq] at x1
      by_cases hb : i < listed.size
      · simp [hb] at x0 x1; rw [x0] at x1; cases x1
      · simp [Array.getElem?_eq_none (Nat.le_of_not_lt hb)] at x1
    have h2 := apart_swap hF (hnd' _ _ hoj) hoj (hfree j oj hoj e hun hnot) (fun cs b => hsel i oi cs b hi) (fun cs b => hsel j oj cs b hoj) hQ hy (H.2 j (ready_mono hj e))
    have hir := mem_ready.1 hr
    have hin : i < listed.size := by
      rcases Nat.lt_or_ge i listed.size with h | h
      · exact h
      · have := hir.1; simp [Array.getElem?_eq_none h] at this
    refine wpOpIn_mono (fun a' w' x => ?_) h2
    rcases x.2 with y | y
    · refine .inl ⟨y.1, ih _ a' w' (hdn.set hj) (fun m om hm hmi hmu hmn => ?_) (ready_mono hr (Ne.symm e)) x.1 y.1 ?_⟩
      · refine hfree m om hm hmi ?_ hmn
        by_cases ej : j = m
        · subst ej; exact hun
        · rw [getD_set_ne true ej] at hmu; exact hmu
      · rw [Array.setIfInBounds_comm _ _ e]; exact y.2
    · exfalso
      have hb := y.1
      unfold bar at hb
      have hio : i < ops.size := (Array.getElem?_eq_some_iff.1 hi).1
      have := List.all_eq_true.1 hb i (List.mem_range.2 hio)
      have hl : (listed.setIfInBounds i true).getD i true = true := by simp [Array.getD_eq_getD_getElem?, hin]
      rw [hl] at this
      exact anc_not_ready hdn (k := ops.size) (by simpa using this) hir.1 hin hj

/-- No operation of the region is a defer statement. -/
def noDefer (ops : Array Oper) : Bool := ops.all fun o => match o.op with | .defer _ => false | _ => true
theorem noDefer_spec (h : noDefer ops = true) : ∀ (j : Nat) (o : Oper), ops[j]? = some o → ∀ c, o.op ≠ .defer c := by
  intro j o hj c e
  obtain ⟨hlt, rfl⟩ := Array.getElem?_eq_some_iff.1 hj
  have := Array.all_eq_true.1 h j hlt
  rw [e] at this; cases this

/-- 'Down', as a Bool. -/
def downB (ops : Array Oper) (listed : Array Bool) : Bool := (List.range ops.size).all fun j => match ops[j]? with
  | none => true
  | some o => !listed.getD j true || o.after.all fun e => !Region.binds .any e || listed.getD e.on false
theorem downB_spec {listed : Array Bool} (h : downB ops listed = true) : Down ops listed := by
  intro j o hj hl e he hb
  have h1 := List.all_eq_true.1 h j (List.mem_range.2 (Array.getElem?_eq_some_iff.1 hj).1)
  rw [hj] at h1
  simp only [hl, Bool.not_true, Bool.false_or] at h1
  have h2 := Array.all_eq_true'.1 h1 e he
  rw [hb] at h2
  simpa using h2
/-- Number i may be taken first. -/
def takeOk (ops : Array Oper) (listed : Array Bool) (i : Nat) : Bool := downB ops listed && noDefer ops && Region.noSelect ops && Region.free .any ops listed i && (Region.ready .any ops listed).contains i

theorem AnyH.take {i : Nat} {oi : Oper} {d : Option Tmp} {v : Value} {k : Nat} {listed : Array Bool} {a : Act} {w : World} (hc : takeOk ops listed i = true) (hi : ops[i]? = some oi) (hd : oi.dst = d) (hF : ∀ f, F.fn f)
    (hQ : ∀ c a w, Q (.panic c) (a.put d v) w → Q (.panic c) a w) (hy : YieldsIf P ops S oi v a) (hS : S w) (h : AnyH F n P ops Q S k (listed.setIfInBounds i true) (a.put d v) w) : AnyH F n P ops Q S (k + 1) listed a w := by
  subst hd
  unfold takeOk at hc
  simp only [Bool.and_eq_true] at hc
  obtain ⟨⟨⟨⟨h0, h1⟩, h2⟩, h3⟩, h4⟩ := hc
  exact AnyH.first hF (.inr (noDefer_spec h1)) hi (Region.noSelect_spec h2) hQ k listed a w (downB_spec h0) (Region.free_spec hi h3) (by simpa using h4) hy hS h

/-- One alone may come up, and is carried out. -/
theorem AnyH.one {i : Nat} {oi : Oper} {k : Nat} {listed : Array Bool} {a : Act} {w : World} (hr : (Region.ready .any ops listed == [i]) = true) (hd : noDefer ops = true) (hi : ops[i]? = some oi) (hF : ∀ f, F.fn f) (hw : Region.wanted oi (yielded ops a.tmps) = true)
    (h : ∀ K : Act → World → Prop, (∀ a w, S w → AnyH F n P ops Q S k (listed.setIfInBounds i true) a w → K a w) → oi.uponIn F n P a K Q ((execOp a.eval oi).run P w)) :
    AnyH F n P ops Q S (k + 1) listed a w := by
  have hr : Region.ready .any ops listed = [i] := by simpa using hr
  refine ⟨fun h0 => (by rw [hr] at h0; cases h0), fun j hj => ?_⟩
  rw [hr] at hj
  obtain rfl : j = i := by simpa using hj
  refine wpOpIn_step hi fun K hK => ?_
  rw [if_pos hw]
  refine ⟨fun f _ => hF f, ?_⟩
  rw [Oper.semAt_eq _ _ _ (noDefer_spec hd _ _ hi)]
  exact h K fun a w hS hA => hK a w (.inl ⟨hS, hA⟩)

/-- One alone may come up, it waits for all that has come up, and is carried out: behind it another S may be chosen. -/
theorem AnyH.wall {i : Nat} {oi : Oper} {k : Nat} {listed : Array Bool} {a : Act} {w : World} (hr : (Region.ready .any ops listed == [i] && bar ops listed i && noDefer ops) = true) (hi : ops[i]? = some oi) (hF : ∀ f, F.fn f) (hw : Region.wanted oi (yielded ops a.tmps) = true)
    (h : ∀ K : Act → World → Prop, (∀ (S' : World → Prop) a w, AnyH F n P ops Q S' k (listed.setIfInBounds i true) a w → K a w) → oi.uponIn F n P a K Q ((execOp a.eval oi).run P w)) :
    AnyH F n P ops Q S (k + 1) listed a w := by
  simp only [Bool.and_eq_true] at hr
  have hd := hr.2
  have hb := hr.1.2
  have hr : Region.ready .any ops listed = [i] := by simpa using hr.1.1
  refine ⟨fun h0 => (by rw [hr] at h0; cases h0), fun j hj => ?_⟩
  rw [hr] at hj
  obtain rfl : j = i := by simpa using hj
  refine wpOpIn_step hi fun K hK => ?_
  rw [if_pos hw]
  refine ⟨fun f _ => hF f, ?_⟩
  rw [Oper.semAt_eq _ _ _ (noDefer_spec hd _ _ hi)]
  exact h K fun S' a w hA => hK a w (.inr ⟨hb, AnyH.any k hA⟩)

theorem AnyH.done {k : Nat} {listed : Array Bool} {a : Act} {w : World} (hr : Region.ready .any ops listed = []) (h : Q .normal a w) : AnyH F n P ops Q S k listed a w := by
  cases k with
  | zero => exact ⟨hr, h⟩
  | succ k => exact ⟨fun _ => h, by rw [hr]; simp⟩

theorem wpIn_region_anyH {id : Nat} {l : List Oper} {a : Act} {w : World} (S : World → Prop) (hm : P.follows .mixedOrders = true) (h : AnyH F n P l.toArray Q S l.length (Array.replicate l.length false) a w.drew) : (Code.region id l.toArray true).wpIn F n P Q a w :=
  wpIn_region_any hm (AnyH.any _ (by simpa using h))
end
/-- The same outside every fence. -/
theorem wp_region_anyH {P : Program} {Q : Exit → Act → World → Prop} {id : Nat} {l : List Oper} {a : Act} {w : World} (S : World → Prop) (hm : P.follows .mixedOrders = true) (h : AnyH Fence.wide 0 P l.toArray Q S l.length (Array.replicate l.length false) a w.drew) : (Code.region id l.toArray true).wp P Q a w :=
  (wpIn_wide (n := 0)).1 (wpIn_region_anyH S hm h)
end Go.Proofs.Ytpjcfepngjpfbaa
