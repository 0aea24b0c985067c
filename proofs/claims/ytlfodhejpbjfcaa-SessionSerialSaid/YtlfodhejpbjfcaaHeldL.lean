/- A region that draws its order: what yields in every world is taken first (free_take), ahead of the S of OrdHeld; behind these an operation that waits for all the rest may turn the world (AnyL.wall). After XOrdHeld. No program. -/
import Derived.Test.YtlfodhejpbjfcaaCom
set_option linter.unusedVariables false
set_option linter.unusedSimpArgs false
namespace Go.Proofs.Ytlfodhejpbjfcaa
section
variable {F : Fence} {n : Nat} {P : Program} {ops : Array Oper} {Q : Exit → Act → World → Prop} {S : World → Prop}

/-- Number i waits for all that is listed, but for L0. -/
def barL (L0 : Array Bool) (ops : Array Oper) (listed : Array Bool) (i : Nat) : Bool := (List.range ops.size).all fun j => !listed.getD j true || L0.getD j false || anc ops ops.size i j
/-- AnyH, where L0 has been taken first. -/
def AnyL (L0 : Array Bool) (F : Fence) (n : Nat) (P : Program) (ops : Array Oper) (Q : Exit → Act → World → Prop) (S : World → Prop) : Nat → Array Bool → Act → World → Prop
  | 0, listed, a, w => Region.ready .any ops listed = [] ∧ Q .normal a w
  | k + 1, listed, a, w => (Region.ready .any ops listed = [] → Q .normal a w) ∧
      ∀ i ∈ Region.ready .any ops listed, wpOpIn F n P ops Q i (fun a' w' => (S w' ∧ AnyL L0 F n P ops Q S k (listed.setIfInBounds i true) a' w') ∨
        (barL L0 ops listed i = true ∧ wpAnyIn F n P .any ops Q k (listed.setIfInBounds i true) a' w')) a w
variable {L0 : Array Bool}
theorem AnyL.any : ∀ (k : Nat) {listed : Array Bool} {a : Act} {w : World}, AnyL L0 F n P ops Q S k listed a w → wpAnyIn F n P .any ops Q k listed a w
  | 0, _, _, _, h => h
  | k + 1, _, _, _, h => ⟨h.1, fun i hi => wpOpIn_mono (fun _ _ x => x.elim (fun y => AnyL.any k y.2) (fun y => y.2)) (h.2 i hi)⟩
theorem AnyL.enter (S : World → Prop) {k : Nat} {listed : Array Bool} {a : Act} {w : World} (h : AnyL listed F n P ops Q S k listed a w) : wpAnyIn F n P .any ops Q k listed a w := AnyL.any k h
theorem free_first (hF : ∀ f, F.fn f) {i : Nat} {oi : Oper} {v : Value} (hnd : ∀ (j : Nat) (o : Oper), ops[j]? = some o → ∀ c, o.op ≠ .defer c) (hi : ops[i]? = some oi) (hsel : ∀ (j : Nat) (o : Oper) cs b, ops[j]? = some o → o.op ≠ .select cs b) (hQ : ∀ c a w, Q (.panic c) (a.put oi.dst v) w → Q (.panic c) a w) :
    ∀ (k : Nat) (listed : Array Bool) (a : Act) (w : World),
      (∀ j oj, ops[j]? = some oj → j ≠ i → listed.getD j true = false → (∀ e ∈ oj.after, Region.binds .any e = true → e.on ≠ i) → oi.apart ops oj = true) →
      i ∈ Region.ready .any ops listed → YieldsIf P ops (fun _ => True) oi v a → wpAnyIn F n P .any ops Q k (listed.setIfInBounds i true) (a.put oi.dst v) w → wpAnyIn F n P .any ops Q (k + 1) listed a w := by
  intro k
  induction k with
  | zero =>
    intro listed a w _ hr hy H
    refine ⟨fun h => absurd (h ▸ hr) (by simp), fun j hj => ?_⟩
    by_cases e : j = i
    · subst e; exact gives_op hF (.inr (hnd _ _ hi)) hi hy trivial H
    · have := ready_mono hj e
      rw [H.1] at this; cases this
  | succ k ih =>
    intro listed a w hfree hr hy H
    refine ⟨fun h => absurd (h ▸ hr) (by simp), fun j hj => ?_⟩
    by_cases e : j = i
    · subst e; exact gives_op hF (.inr (hnd _ _ hi)) hi hy trivial H
    obtain ⟨hun, oj, hoj, hall⟩ := mem_ready.1 hj
    have hnot : ∀ e ∈ oj.after, Region.binds .any e = true → e.on ≠ i := fun e he hb heq => by
      have x1 := hall e he hb
      have x0 := (mem_ready.1 hr).1
      rw [heq] at x1
      by_cases hb : i < listed.size
      · simp [hb] at x0 x1; rw [x0] at x1; cases x1
      · simp [Array.getElem?_eq_none (Nat.le_of_not_lt hb)] at x1
    have h2 := apart_swap hF (.inr (hnd _ _ hoj)) hoj (hfree j oj hoj e hun hnot) (fun cs b => hsel i oi cs b hi) (fun cs b => hsel j oj cs b hoj) hQ hy (H.2 j (ready_mono hj e))
    refine wpOpIn_mono (fun a' w' x => ?_) h2
    refine ih _ a' w' (fun m om hm hmi hmu hmn => ?_) (ready_mono hr (Ne.symm e)) x.1 ?_
    · refine hfree m om hm hmi ?_ hmn
      by_cases ej : j = m
      · subst ej; exact hun
      · rw [getD_set_ne true ej] at hmu; exact hmu
    · rw [Array.setIfInBounds_comm _ _ e]; exact x.2
/-- What yields in every world is taken first. -/
theorem free_take {i : Nat} {oi : Oper} {d : Option Tmp} {v : Value} {k : Nat} {listed : Array Bool} {a : Act} {w : World} (hc : takeOk ops listed i = true) (hi : ops[i]? = some oi) (hd : oi.dst = d) (hF : ∀ f, F.fn f)
    (hQ : ∀ c a w, Q (.panic c) (a.put d v) w → Q (.panic c) a w) (hy : YieldsIf P ops (fun _ => True) oi v a) (h : wpAnyIn F n P .any ops Q k (listed.setIfInBounds i true) (a.put d v) w) : wpAnyIn F n P .any ops Q (k + 1) listed a w := by
  subst hd
  unfold takeOk at hc
  simp only [Bool.and_eq_true] at hc
  obtain ⟨⟨⟨⟨h0, h1⟩, h2⟩, h3⟩, h4⟩ := hc
  exact free_first hF (noDefer_spec h1) hi (Region.noSelect_spec h2) hQ k listed a w (Region.free_spec hi h3) (by simpa using h4) hy h

theorem AnyL.first (hF : ∀ f, F.fn f) {i : Nat} {oi : Oper} {v : Value} (hnd : F.round = none ∨ ∀ (j : Nat) (o : Oper), ops[j]? = some o → ∀ c, o.op ≠ .defer c) (hi : ops[i]? = some oi) (hsel : ∀ (j : Nat) (o : Oper) cs b, ops[j]? = some o → o.op ≠ .select cs b) (hQ : ∀ c a w, Q (.panic c) (a.put oi.dst v) w → Q (.panic c) a w) (h0 : L0.getD i false = false) :
    ∀ (k : Nat) (listed : Array Bool) (a : Act) (w : World),
      Down ops listed → (∀ j oj, ops[j]? = some oj → j ≠ i → listed.getD j true = false → (∀ e ∈ oj.after, Region.binds .any e = true → e.on ≠ i) → oi.apart ops oj = true) →
      i ∈ Region.ready .any ops listed → YieldsIf P ops S oi v a → S w → AnyL L0 F n P ops Q S k (listed.setIfInBounds i true) (a.put oi.dst v) w → AnyL L0 F n P ops Q S (k + 1) listed a w := by
  have hnd' : ∀ (j : Nat) (o : Oper), ops[j]? = some o → (F.round = none ∨ ∀ c, o.op ≠ .defer c) := fun j o hj => hnd.imp id fun h => h j o hj
  intro k
  induction k with
  | zero =>
    intro listed a w hdn _ hr hy hS H
    refine ⟨fun h => absurd (h ▸ hr) (by simp), fun j hj => ?_⟩
    by_cases e : j = i
    · subst e; exact gives_op hF (hnd' _ _ hi) hi hy hS (.inl ⟨hS, H⟩)
    · have := ready_mono hj e
      rw [H.1] at this; cases this
  | succ k ih =>
    intro listed a w hdn hfree hr hy hS H
    refine ⟨fun h => absurd (h ▸ hr) (by simp), fun j hj => ?_⟩
    by_cases e : j = i
    · subst e; exact gives_op hF (hnd' _ _ hi) hi hy hS (.inl ⟨hS, H⟩)
    obtain ⟨hun, oj, hoj, hall⟩ := mem_ready.1 hj
    have hnot : ∀ e ∈ oj.after, Region.binds .any e = true → e.on ≠ i := fun e he hb heq => by
      have x1 := hall e he hb
      have x0 := (mem_ready.1 hr).1
      rw [heq] at x1
      by_cases hb : i < listed.size
      · simp [hb] at x0 x1; rw [x0] at x1; cases x1
      · simp [Array.getElem?_eq_none (Nat.le_of_not_lt hb)] at x1
    have h2 := apart_swap hF (hnd' _ _ hoj) hoj (hfree j oj hoj e hun hnot) (fun cs b => hsel i oi cs b hi) (fun cs b => hsel j oj cs b hoj) hQ hy (H.2 j (ready_mono hj e))
    have hir := mem_ready.1 hr
    have hin : i < listed.size := by
      rcases Nat.lt_or_ge i listed.size with h | h
      · exact h
      · have := hir.1; simp [Array.getElem?_eq_none h] at this
    refine wpOpIn_mono (fun a' w' x => ?_) h2
    rcases x.2 with y | y
    · refine .inl ⟨y.1, ih _ a' w' (hdn.set hj) (fun m om hm hmi hmu hmn => ?_) (ready_mono hr (Ne.symm e)) x.1 y.1 ?_⟩
      · refine hfree m om hm hmi ?_ hmn
        by_cases ej : j = m
        · subst ej; exact hun
        · rw [getD_set_ne true ej] at hmu; exact hmu
      · rw [Array.setIfInBounds_comm _ _ e]; exact y.2
    · exfalso
      have hb := y.1
      unfold barL at hb
      have hio : i < ops.size := (Array.getElem?_eq_some_iff.1 hi).1
      have := List.all_eq_true.1 hb i (List.mem_range.2 hio)
      have hl : (listed.setIfInBounds i true).getD i true = true := by simp [Array.getD_eq_getD_getElem?, hin]
      rw [hl, h0] at this
      exact anc_not_ready hdn (k := ops.size) (by simpa using this) hir.1 hin hj
def takeOkL (L0 : Array Bool) (ops : Array Oper) (listed : Array Bool) (i : Nat) : Bool := takeOk ops listed i && !L0.getD i false
theorem AnyL.take {i : Nat} {oi : Oper} {d : Option Tmp} {v : Value} {k : Nat} {listed : Array Bool} {a : Act} {w : World} (hc : takeOkL L0 ops listed i = true) (hi : ops[i]? = some oi) (hd : oi.dst = d) (hF : ∀ f, F.fn f)
    (hQ : ∀ c a w, Q (.panic c) (a.put d v) w → Q (.panic c) a w) (hy : YieldsIf P ops S oi v a) (hS : S w) (h : AnyL L0 F n P ops Q S k (listed.setIfInBounds i true) (a.put d v) w) : AnyL L0 F n P ops Q S (k + 1) listed a w := by
  subst hd
  unfold takeOkL takeOk at hc
  simp only [Bool.and_eq_true] at hc
  obtain ⟨⟨⟨⟨⟨h0, h1⟩, h2⟩, h3⟩, h4⟩, h5⟩ := hc
  exact AnyL.first hF (.inr (noDefer_spec h1)) hi (Region.noSelect_spec h2) hQ (by simpa using h5) k listed a w (downB_spec h0) (Region.free_spec hi h3) (by simpa using h4) hy hS h
/-- One alone may come up, and is carried out. -/
theorem AnyL.one {i : Nat} {oi : Oper} {k : Nat} {listed : Array Bool} {a : Act} {w : World} (hr : (Region.ready .any ops listed == [i]) = true) (hd : noDefer ops = true) (hi : ops[i]? = some oi) (hF : ∀ f, F.fn f) (hw : Region.wanted oi (yielded ops a.tmps) = true)
    (h : ∀ K : Act → World → Prop, (∀ a w, S w → AnyL L0 F n P ops Q S k (listed.setIfInBounds i true) a w → K a w) → oi.uponIn F n P a K Q ((execOp a.eval oi).run P w)) :
    AnyL L0 F n P ops Q S (k + 1) listed a w := by
  have hr : Region.ready .any ops listed = [i] := by simpa using hr
  refine ⟨fun h0 => (by rw [hr] at h0; cases h0), fun j hj => ?_⟩
  rw [hr] at hj
  obtain rfl : j = i := by simpa using hj
  refine wpOpIn_step hi fun K hK => ?_
  rw [if_pos hw]
  refine ⟨fun f _ => hF f, ?_⟩
  rw [Oper.semAt_eq _ _ _ (noDefer_spec hd _ _ hi)]
  exact h K fun a w hS hA => hK a w (.inl ⟨hS, hA⟩)
/-- One alone may come up, it waits for all that has come up but what was taken ahead of S: behind it another S may be chosen. -/
theorem AnyL.wall {i : Nat} {oi : Oper} {k : Nat} {listed : Array Bool} {a : Act} {w : World} (hr : (Region.ready .any ops listed == [i] && barL L0 ops listed i && noDefer ops) = true) (hi : ops[i]? = some oi) (hF : ∀ f, F.fn f) (hw : Region.wanted oi (yielded ops a.tmps) = true)
    (h : ∀ K : Act → World → Prop, (∀ (S' : World → Prop) a w, AnyL L0 F n P ops Q S' k (listed.setIfInBounds i true) a w → K a w) → oi.uponIn F n P a K Q ((execOp a.eval oi).run P w)) :
    AnyL L0 F n P ops Q S (k + 1) listed a w := by
  simp only [Bool.and_eq_true] at hr
  have hd := hr.2
  have hb := hr.1.2
  have hr : Region.ready .any ops listed = [i] := by simpa using hr.1.1
  refine ⟨fun h0 => (by rw [hr] at h0; cases h0), fun j hj => ?_⟩
  rw [hr] at hj
  obtain rfl : j = i := by simpa using hj
  refine wpOpIn_step hi fun K hK => ?_
  rw [if_pos hw]
  refine ⟨fun f _ => hF f, ?_⟩
  rw [Oper.semAt_eq _ _ _ (noDefer_spec hd _ _ hi)]
  exact h K fun S' a w hA => hK a w (.inr ⟨hb, AnyL.any k hA⟩)
theorem AnyL.done {k : Nat} {listed : Array Bool} {a : Act} {w : World} (hr : Region.ready .any ops listed = []) (h : Q .normal a w) : AnyL L0 F n P ops Q S k listed a w := by
  cases k with
  | zero => exact ⟨hr, h⟩
  | succ k => exact ⟨fun _ => h, by rw [hr]; simp⟩
theorem wpIn_region_free {id : Nat} {l : List Oper} {a : Act} {w : World} (hm : P.follows .mixedOrders = true) (h : wpAnyIn F n P .any l.toArray Q l.length (Array.replicate l.length false) a w.drew) : (Code.region id l.toArray true).wpIn F n P Q a w :=
  wpIn_region_any hm (by simpa using h)
end
theorem wp_region_free {P : Program} {Q : Exit → Act → World → Prop} {id : Nat} {l : List Oper} {a : Act} {w : World} (hm : P.follows .mixedOrders = true) (h : wpAnyIn Fence.wide 0 P .any l.toArray Q l.length (Array.replicate l.length false) a w.drew) : (Code.region id l.toArray true).wp P Q a w :=
  (wpIn_wide (n := 0)).1 (wpIn_region_free hm h)
end Go.Proofs.Ytlfodhejpbjfcaa
