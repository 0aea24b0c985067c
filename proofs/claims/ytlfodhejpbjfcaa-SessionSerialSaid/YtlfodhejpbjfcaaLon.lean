/- The trace of a run that begins and ends with one goroutine. No program.
All that a run with one goroutine leaves in the trace is that goroutine's; so it races with nothing. No program.
A row that says 'leaving' and 'time passes', of a call that starts no goroutine, from its contract. No program. -/
import Derived.Conc.HoldsTime
import Derived.Conc.Fork
import Derived.Eval
set_option linter.unusedVariables false
set_option linter.unusedSimpArgs false
namespace Go.Proofs.Ytlfodhejpbjfcaa
open Go

def HasVar (ts : Array Timer) : Prop := ∃ t ∈ ts.toList, ∃ a, t.name = .var a
/-- What never goes away again. -/
def Grown (m m' : Machine) : Prop := m.gs.size ≤ m'.gs.size ∧ (HasVar m.rest.timers → HasVar m'.rest.timers) ∧ (m.rest.watch = true → m'.rest.watch = true)
theorem Grown.refl (m : Machine) : Grown m m := ⟨Nat.le_refl _, id, id⟩
theorem Grown.trans {a b c : Machine} (h : Grown a b) (k : Grown b c) : Grown a c := ⟨Nat.le_trans h.1 k.1, k.2.1 ∘ h.2.1, k.2.2 ∘ h.2.2⟩
theorem Grown.of {m m' : Machine} (h : m.gs.size ≤ m'.gs.size) (hr : m'.rest.timers = m.rest.timers) (hw : m.rest.watch = true → m'.rest.watch = true) : Grown m m' := ⟨h, by rw [hr]; exact id, hw⟩

theorem swap_size (gs : Array Goroutine) (i : Nat) (v : Goroutine) : (gs.swapAt! i v).2.size = gs.size := by
  unfold Array.swapAt!
  split
  · simp [Array.swapAt]
  · rfl

theorem giveWork_size (p : Program) (gs : Array Goroutine) (r : Option Nat) (work : List Item) (b : Bool) : gs.size ≤ (giveWork p gs r work b).1.size := by
  unfold giveWork
  cases r <;> simp

theorem look_grown {p : Program} {gs : Array Goroutine} {rest : Rest} {w : World} {m' : Machine} (h : look p gs rest w = .next m') : gs.size ≤ m'.gs.size ∧ m'.rest = rest := by
  unfold look at h
  simp only at h
  repeat' split at h
  all_goals first
    | (simp only [reduceCtorEq] at h; done)
    | skip
  all_goals
    simp only [Stepped.next.injEq] at h
    subst h
    refine ⟨?_, rfl⟩
    simp only
    repeat' split
    all_goals first
      | exact Nat.le_refl _
      | exact giveWork_size ..
      | exact Nat.le_trans (giveWork_size ..) (giveWork_size ..)

theorem HasVar.set {ts : Array Timer} {k : Nat} {t t' : Timer} (hk : ts[k]? = some t) (hn : t'.name = t.name) (h : HasVar ts) : HasVar (ts.setIfInBounds k t') := by
  obtain ⟨x, hx, a, ha⟩ := h
  obtain ⟨j, hj, hjx⟩ := List.getElem_of_mem hx
  have hk2 : k < ts.size := (Array.getElem?_eq_some_iff.1 hk).1
  by_cases e : k = j
  · subst e
    have e2 : t = x := by
      have : ts[k]? = some x := by rw [Array.getElem?_eq_getElem hk2]; simpa using hjx
      rw [hk] at this; exact Option.some.inj this
    refine ⟨t', ?_, a, by rw [hn, e2, ha]⟩
    rw [Array.toList_setIfInBounds]
    exact List.mem_iff_getElem?.2 ⟨k, by simp [hk2]⟩
  · refine ⟨x, ?_, a, ha⟩
    rw [Array.toList_setIfInBounds]
    refine List.mem_iff_getElem?.2 ⟨j, ?_⟩
    rw [List.getElem?_set_ne e, List.getElem?_eq_getElem hj, hjx]
theorem HasVar.push {ts : Array Timer} (t : Timer) (h : HasVar ts) : HasVar (ts.push t) := by
  obtain ⟨x, hx, a, ha⟩ := h
  exact ⟨x, by simp at hx ⊢; exact .inl hx, a, ha⟩
theorem find_name {ts : Array Timer} {var : Addr} {k : Nat} (h : ts.findIdx? (fun t => t.name == .var var) = some k) : ts[k]? = some (ts.getD k default) := by
  have h1 := Array.findIdx?_eq_some_iff_getElem.1 h
  obtain ⟨hk, -⟩ := h1
  rw [Array.getElem?_eq_getElem hk]
  simp [Array.getD, hk]
theorem retime_grown (m : Machine) (k : Nat) (t : Timer) (wh pe : Nat) (hk : m.rest.timers[k]? = some t) : Grown m (retime m k t wh pe).2 := by
  unfold retime
  refine ⟨Nat.le_refl _, fun h => ?_, id⟩
  exact HasVar.set hk rfl h
theorem timerOp_grown {m m' : Machine} {op : TimerOp} {v : Value} (h : timerOp m op = .ok (v, m')) : Grown m m' := by
  unfold timerOp at h
  split at h
  · split at h
    · simp only [Except.ok.injEq, Prod.mk.injEq] at h
      obtain ⟨-, rfl⟩ := h
      exact ⟨Nat.le_refl _, fun h => h.push _, id⟩
    · split at h
      · split at h
        · cases h
        · simp only [Except.ok.injEq, Prod.mk.injEq] at h
          obtain ⟨-, rfl⟩ := h
          exact ⟨Nat.le_refl _, fun h => h.push _, id⟩
      · cases h
  · unfold timerOp.named at h
    split at h
    · rename_i k hk
      simp only [Except.ok.injEq] at h
      have := retime_grown m k (m.rest.timers.getD k default) 0 (m.rest.timers.getD k default).period (find_name hk)
      rw [h] at this
      exact this
    · cases h
  · split at h
    · rename_i m1 hm1
      have g1 : Grown m m1 ∧ m1.rest = m.rest := by
        unfold timerOp.opened at hm1
        split at hm1
        · split at hm1
          · cases hm1; exact ⟨Grown.refl _, rfl⟩
          · cases hm1
        · cases hm1; exact ⟨Grown.refl _, rfl⟩
      unfold timerOp.named at h
      split at h
      · rename_i k hk
        simp only [Except.ok.injEq] at h
        have hk1 : m1.rest.timers[k]? = some (m.rest.timers.getD k default) := by rw [g1.2]; exact find_name hk
        have e := (congrArg Prod.snd h).symm
        simp only at e
        rw [e]
        exact g1.1.trans (retime_grown m1 k _ _ _ hk1)
      · cases h
    · cases h
  · simp only [Except.ok.injEq, Prod.mk.injEq] at h
    obtain ⟨-, rfl⟩ := h
    refine ⟨Nat.le_refl _, fun h => ?_, id⟩
    obtain ⟨x, hx, a, ha⟩ := h
    refine ⟨x, ?_, a, ha⟩
    simp only [Machine.withTimers, Array.toList_append, List.mem_append]
    left
    rw [Array.toList_filter]
    refine List.mem_filter.2 ⟨hx, ?_⟩
    rw [ha]
    simp
theorem serve_grown {p : Program} {m m' : Machine} {k : Nat} (h : serve p m k = .next m') : Grown m m' := by
  unfold serve at h
  split at h
  · cases h
  · rename_i hk
    simp only [Stepped.next.injEq] at h
    subst h
    refine ⟨by simp [Machine.withTimers], fun h => ?_, id⟩
    obtain ⟨x, hx, a, ha⟩ := h
    refine ⟨x, ?_, a, ha⟩
    have hk2 := (Array.getElem?_eq_some_iff.1 hk).1
    simp only [Machine.withTimers]
    unfold Array.eraseIdxIfInBounds
    rw [dif_pos hk2, Array.toList_eraseIdx]
    obtain ⟨j, hj, hjx⟩ := List.getElem_of_mem hx
    refine List.mem_eraseIdx_iff_getElem?.2 ⟨j, fun e => ?_, by rw [List.getElem?_eq_getElem hj, hjx]⟩
    subst e
    have : m.rest.timers[j]? = some x := by rw [Array.getElem?_eq_getElem hk2]; simpa using hjx
    rw [hk] at this
    cases this
    cases ha
  · rename_i t hk
    simp only at h
    split at h
    · cases h
    · simp only [Stepped.next.injEq] at h
      subst h
      exact ⟨by simp, fun h => HasVar.set hk rfl h, id⟩
theorem finishPartner_size (p : Program) (gs : Array Goroutine) (h k : Nat) (v : Value) : (finishPartner p gs h k v).size = gs.size := by simp [finishPartner]
theorem communicate_grown {p : Program} {rest : Rest} {gs : Array Goroutine} {i : Nat} {g : Goroutine} {cases : Array CommCase} {bl : Bool} {sh : CommShape} {w : World} {m' : Machine} {ops : Array MemOp} (h : communicate p rest gs i g cases bl sh w = (.next m', ops)) : m'.gs.size = gs.size ∧ m'.rest = rest := by
  unfold communicate at h
  simp only at h
  repeat' split at h
  all_goals first
    | (simp only [Prod.mk.injEq, Stepped.next.injEq, reduceCtorEq, false_and] at h; done)
    | (simp only [Prod.mk.injEq, Stepped.next.injEq] at h; obtain ⟨rfl, -⟩ := h; exact ⟨by simp [finishPartner_size], rfl⟩)
theorem runT_grown {p : Program} {m m' : Machine} {i : Nat} {l : Bool} {ops : Array MemOp} (h : runT p m i l = (.next m', ops)) : Grown m m' := by
  have hs := swap_size m.gs i { (default : Goroutine) with status := .finished }
  unfold runT at h
  generalize m.gs.swapAt! i { (default : Goroutine) with status := .finished } = sw at hs h
  obtain ⟨g, gs⟩ := sw
  simp only at h hs
  split at h
  · simp only [Prod.mk.injEq, reduceCtorEq, false_and] at h
  · simp only [Prod.mk.injEq] at h
    obtain ⟨h1, -⟩ := h
    have h2 := communicate_grown (Prod.ext h1 rfl)
    exact Grown.of (by rw [h2.1, hs]; exact Nat.le_refl _) (by rw [h2.2]) (by rw [h2.2]; exact id)
  · simp only [Prod.mk.injEq, Stepped.next.injEq] at h
    obtain ⟨rfl, -⟩ := h
    refine ⟨?_, ?_, ?_⟩
    · simp only
      split <;> simp [hs]
    · simp only; split <;> exact id
    · simp only; split <;> exact id
  · simp only [Prod.mk.injEq, Stepped.next.injEq] at h
    obtain ⟨rfl, -⟩ := h
    exact Grown.of (by simp [hs]) rfl id
  · simp only [Prod.mk.injEq] at h
    obtain ⟨h, -⟩ := h
    split at h
    · cases h
    · simp only [Stepped.next.injEq] at h
      subst h
      exact Grown.of (by simp [hs]) rfl id
  · simp only [Prod.mk.injEq, Stepped.next.injEq] at h
    obtain ⟨rfl, -⟩ := h
    exact Grown.of (by simp [hs]) rfl id
  · simp only [Prod.mk.injEq] at h
    obtain ⟨h, -⟩ := h
    have h2 := look_grown h
    exact Grown.of (by have := h2.1; simp [hs] at this; exact this) (by rw [h2.2]) (by rw [h2.2]; exact id)
  · simp only [Prod.mk.injEq, Stepped.next.injEq] at h
    obtain ⟨rfl, -⟩ := h
    exact Grown.of (by simp [hs]) rfl (fun e => by simp [e])
  · simp only [Prod.mk.injEq, Stepped.next.injEq] at h
    obtain ⟨rfl, -⟩ := h
    exact Grown.of (by simp [hs]) rfl id
  · simp only [Prod.mk.injEq] at h
    obtain ⟨h, -⟩ := h
    split at h
    · simp only [Stepped.next.injEq] at h
      subst h
      exact Grown.of (by simp [hs]) rfl id
    · split at h
      · simp only [Stepped.next.injEq] at h
        subst h
        exact Grown.of (by simp [hs]) rfl id
      · cases h
    · cases h
  · simp only [Prod.mk.injEq] at h
    obtain ⟨h, -⟩ := h
    split at h
    · rename_i hm
      simp only [Stepped.next.injEq] at h
      subst h
      have h2 := timerOp_grown hm
      exact ⟨by have := h2.1; simp [hs] at this ⊢, h2.2.1, h2.2.2⟩
    · split at h
      · simp only [Stepped.next.injEq] at h
        subst h
        exact Grown.of (by simp [hs]) rfl id
      · cases h
    · cases h
    · cases h

def MoveGr (m : Machine) : Move → Prop
  | .goroutine m1 _ => Grown m m1
  | .machine (.next m') _ => Grown m m'
  | .machine _ _ => True
theorem advance_grown (m : Machine) (t : Nat) : Grown m (m.advanceTo t) := Grown.of (Nat.le_refl _) rfl id
theorem serve_gr {p : Program} {m m1 : Machine} {k : Nat} {ops : Array MemOp} (h : Grown m m1) : MoveGr m (.machine (serve p m1 k) ops) := by
  cases hs : serve p m1 k with
  | next m' => exact h.trans (serve_grown hs)
  | ended o w => trivial
theorem askOn_gr (p : Program) (m : Machine) : MoveGr m (askOn p m) := by
  unfold askOn
  simp only
  repeat' split
  all_goals first
    | exact True.intro
    | exact serve_gr (Grown.of (Nat.le_refl _) rfl id)
    | exact Grown.of (Nat.le_refl _) rfl id
theorem ask_gr (p : Program) (m : Machine) : MoveGr m (ask p m) := by
  unfold ask
  split
  · split
    · trivial
    · rename_i w hw
      cases hl : look p m.gs m.rest w with
      | next m1 =>
        have h2 := look_grown hl
        have h3 : Grown m m1 := Grown.of h2.1 (by rw [h2.2]) (by rw [h2.2]; exact id)
        have h4 := askOn_gr p m1
        simp only
        cases ha : askOn p m1 with
        | goroutine m2 i => rw [ha] at h4; exact h3.trans h4
        | machine s ops =>
          rw [ha] at h4
          cases s with
          | next m' => exact h3.trans h4
          | ended o w => trivial
      | ended o w => trivial
    · rename_i k w hk hw
      have h4 := askOn_gr p { m with world := w }
      cases ha : askOn p { m with world := w } with
      | goroutine m2 i => rw [ha] at h4; exact h4
      | machine s ops =>
        rw [ha] at h4
        cases s with
        | next m' => exact h4
        | ended o w => trivial
  · exact askOn_gr p m
theorem move_gr (p : Program) (m : Machine) : MoveGr m (move p m) := by
  unfold move
  split
  · split
    · exact Grown.refl _
    · trivial
  · split
    · split
      · exact Grown.of (Nat.le_refl _) rfl id
      · have h4 := ask_gr p { m with rest := { m.rest with slice := none } }
        cases ha : ask p { m with rest := { m.rest with slice := none } } with
        | goroutine m2 i => rw [ha] at h4; exact h4
        | machine s ops =>
          rw [ha] at h4
          cases s with
          | next m' => exact h4
          | ended o w => trivial
    · exact ask_gr p m
theorem step_grown {p : Program} {m m' : Machine} {ops : Array MemOp} (h : stepT p m = (.next m', ops)) : Grown m m' := by
  have h1 := move_gr p m
  unfold stepT at h
  cases hm : move p m with
  | goroutine m1 i =>
    rw [hm] at h h1
    exact h1.trans (runT_grown h)
  | machine s o =>
    rw [hm] at h h1
    simp only [Prod.mk.injEq] at h
    obtain ⟨rfl, -⟩ := h
    exact h1
theorem runN_grown {p : Program} : ∀ {n : Nat} {m m' : Machine}, runN p n m = .next m' → Grown m m'
  | 0, m, m', h => by simp only [runN, Stepped.next.injEq] at h; subst h; exact Grown.refl _
  | n + 1, m, m', h => by
    rw [runN] at h
    cases hs : stepT p m with
    | mk s ops =>
      have e : step p m = s := by unfold step; rw [hs]
      rw [e] at h
      cases s with
      | next m1 => exact (step_grown hs).trans (runN_grown h)
      | ended o w => cases h
end Go.Proofs.Ytlfodhejpbjfcaa
namespace Go.Proofs.Ytlfodhejpbjfcaa
open Go

def Mine (i : Nat) (ops : Array MemOp) : Prop := ∀ op ∈ ops.toList, op.g = i
theorem Mine.nil (i : Nat) : Mine i #[] := by intro op h; simp at h
theorem Mine.append {i : Nat} {a b : Array MemOp} (h : Mine i a) (k : Mine i b) : Mine i (a ++ b) := by
  intro op ho
  rw [Array.toList_append] at ho
  rcases List.mem_append.1 ho with ho | ho
  · exact h op ho
  · exact k op ho
theorem Mine.events (i : Nat) (fn : FuncId) (pos : String) (es : Array Event) : Mine i (MemOp.ofEvents i fn pos es) := by
  unfold MemOp.ofEvents
  split
  · exact Mine.nil i
  · intro op h
    rw [Array.toList_map] at h
    obtain ⟨e, -, rfl⟩ := List.mem_map.1 h
    rfl

theorem ways_none {w : World} {gs : Array Goroutine} (hp : ∀ r b, partners gs r b = []) (c : CommCase) : ∀ y ∈ ways w gs c, ∀ h hk, y ≠ .partner h hk := by
  unfold ways
  intro y hy h hk e
  subst e
  simp only [hp] at hy
  repeat' split at hy
  all_goals simp at hy
theorem pick_way {p : Program} {w w' : World} {ready : List (Nat × CommCase × List Way)} {q : Nat → Question} {k : Nat} {c : CommCase} {way : Way}
    (hr : ∀ x ∈ ready, ∀ y ∈ x.2.2, ∀ h hk, y ≠ .partner h hk)
    (h : (do
      let a ← choose (.select ready.length)
      let (k, c, ws) := ready.getD a (0, default, [])
      let b ← choose (q ws.length)
      pure (k, c, ws.getD b .closed) : Sem (Nat × CommCase × Way)).run p w = .ok (k, c, way) w') : ∀ h hk, way ≠ .partner h hk := by
  rw [Sem.run_bind] at h
  cases ha : (choose (.select ready.length)).run p w with
  | halt x w1 => rw [ha] at h; simp [Result.andThen] at h
  | ok a w1 =>
    rw [ha] at h
    simp only [Result.andThen] at h
    obtain ⟨⟨k0, c0, ws⟩, hx⟩ : ∃ x, ready.getD a (0, default, []) = x := ⟨_, rfl⟩
    rw [hx] at h
    simp only at h
    rw [Sem.run_bind] at h
    cases hb : (choose (q ws.length)).run p w1 with
    | halt x w2 => rw [hb] at h; simp [Result.andThen] at h
    | ok b w2 =>
      rw [hb] at h
      simp only [Result.andThen] at h
      have e : way = ws.getD b .closed := by
        change Result.ok _ _ = Result.ok _ _ at h
        simp only [Result.ok.injEq, Prod.mk.injEq] at h
        exact h.1.2.2.symm
      intro h1 hk e2
      rw [e2] at e
      by_cases hbl : b < ws.length
      · have hm : ws.getD b .closed ∈ ws := by simp [List.getD, hbl]
        have hxm : (k0, c0, ws) ∈ ready := by
          by_cases hal : a < ready.length
          · rw [← hx]; simp [List.getD, hal]
          · exfalso
            have : ready.getD a (0, default, []) = (0, default, []) := by simp [List.getD, hal]
            rw [hx] at this
            simp only [Prod.mk.injEq] at this
            rw [this.2.2] at hbl
            simp at hbl
        exact hr _ hxm _ hm h1 hk e.symm
      · simp [List.getD, hbl] at e
theorem comm_ops {p : Program} {rest : Rest} {gs : Array Goroutine} {i : Nat} {g : Goroutine} {cases : Array CommCase} {bl : Bool} {sh : CommShape} {w : World} {s : Stepped} {ops : Array MemOp} (hp : ∀ r b, partners gs r b = []) (h : communicate p rest gs i g cases bl sh w = (s, ops)) : Mine i ops := by
  unfold communicate at h
  simp only at h
  split at h
  · simp only [Prod.mk.injEq] at h; rw [← h.2]; exact Mine.nil i
  · split at h
    · repeat' split at h
      all_goals (simp only [Prod.mk.injEq] at h; rw [← h.2]; exact Mine.nil i)
    · split at h
      · simp only [Prod.mk.injEq] at h; rw [← h.2]; exact Mine.nil i
      · rename_i hpick
        have hw := pick_way (q := fun n => .extern "which waiting goroutine is the partner" n) (fun x hx y hy => by
          obtain ⟨hx, -⟩ := List.mem_filter.1 hx
          obtain ⟨z, -, rfl⟩ := List.mem_map.1 hx
          exact ways_none hp _ y hy) hpick
        simp only [hp] at h
        repeat' split at h
        all_goals first
          | exact absurd rfl (hw _ _)
          | (simp only [Prod.mk.injEq] at h; rw [← h.2]; intro op ho; simp at ho; first | (rcases ho with rfl | rfl <;> rfl) | (subst ho; rfl) | skip)
theorem partners_none (r : Nat) (b : Bool) : partners #[{ (default : Goroutine) with status := .finished }] r b = [] := by
  unfold partners
  simp
theorem runT_mine {p : Program} {m : Machine} {l : Bool} {s : Stepped} {ops : Array MemOp} (h1 : m.gs.size = 1) (h : runT p m 0 l = (s, ops)) : (∃ m', s = .next m' ∧ 2 ≤ m'.gs.size) ∨ Mine 0 ops := by
  obtain ⟨g0, hg⟩ : ∃ g0, m.gs = #[g0] := by
    exact ⟨m.gs[0]'(by omega), Array.ext (by simp [h1]) (fun i hi hi2 => by
      have : i = 0 := by simp at hi2; exact hi2
      subst this; rfl)⟩
  have hsw : m.gs.swapAt! 0 { (default : Goroutine) with status := .finished } = (g0, #[{ (default : Goroutine) with status := .finished }]) := by rw [hg]; rfl
  unfold runT at h
  rw [hsw] at h
  simp only at h
  have hm : ∀ es, Mine 0 (MemOp.ofEvents 0 g0.frame.fn g0.frame.place es) := fun es => Mine.events 0 _ _ es
  split at h
  · simp only [Prod.mk.injEq] at h; right; rw [← h.2]; exact hm _
  · simp only [Prod.mk.injEq] at h
    right
    rw [← h.2]
    exact (hm _).append (comm_ops partners_none (Prod.ext rfl rfl))
  · simp only [Prod.mk.injEq] at h; right; rw [← h.2]; exact hm _
  · simp only [Prod.mk.injEq] at h; left; exact ⟨_, h.1.symm, by simp⟩
  · simp only [Prod.mk.injEq] at h; right; rw [← h.2]; exact hm _
  · simp only [Prod.mk.injEq] at h; right; rw [← h.2]; exact hm _
  · simp only [Prod.mk.injEq] at h; right; rw [← h.2]; exact hm _
  · simp only [Prod.mk.injEq] at h; right; rw [← h.2]; exact hm _
  · simp only [Prod.mk.injEq] at h; left; exact ⟨_, h.1.symm, by simp⟩
  · simp only [Prod.mk.injEq] at h; right; rw [← h.2]; exact hm _
  · simp only [Prod.mk.injEq] at h; right; rw [← h.2]; exact hm _

/-- One goroutine, no timer of a variable's, nobody looks. -/
def Small (m : Machine) : Prop := m.gs.size = 1 ∧ ¬ HasVar m.rest.timers ∧ m.rest.watch = false
theorem served_none {p : Program} {m : Machine} (h : ¬ HasVar m.rest.timers) (k : Nat) : served p m k = #[] := by
  unfold served
  split
  · rename_i hk
    exact absurd ⟨_, List.mem_of_getElem? (by simpa using hk), _, rfl⟩ h
  · rfl
theorem runnable_zero {gs : Array Goroutine} {mono : Nat} (h : gs.size = 1) (k : Nat) : (runnable gs mono).getD k 0 = 0 := by
  rw [runnable_eq, h]
  by_cases hk : k < ((List.range 1).filter fun i => (gs[i]?).any (·.canRun mono)).length
  · have hm : ((List.range 1).filter fun i => (gs[i]?).any (·.canRun mono)).getD k 0 ∈ ((List.range 1).filter fun i => (gs[i]?).any (·.canRun mono)) := by simp only [List.getD, List.getElem?_eq_getElem hk, Option.getD_some]; exact List.getElem_mem hk
    have := (List.mem_filter.1 hm).1
    simpa using this
  · simp only [List.getD, List.getElem?_eq_none (Nat.le_of_not_lt hk), Option.getD_none]
/-- What a machine like that does next. -/
def MoveOk : Move → Prop
  | .goroutine m1 i => m1.gs.size = 1 ∧ i = 0
  | .machine _ ops => ops = #[]
theorem askOn_ok {p : Program} {m : Machine} (h : Small m) : MoveOk (askOn p m) := by
  obtain ⟨h1, h2, h3⟩ := h
  unfold askOn
  simp only
  repeat' split
  all_goals first
    | exact rfl
    | exact served_none h2 _
    | exact ⟨h1, runnable_zero h1 _⟩
theorem move_ok {p : Program} {m : Machine} (h : Small m) : MoveOk (move p m) := by
  have hask : ∀ {m : Machine}, Small m → MoveOk (ask p m) := fun {m} h => by
    unfold ask
    rw [if_neg (by rw [h.2.2]; simp)]
    exact askOn_ok h
  unfold move
  split
  · rename_i i _
    split
    · rename_i hr
      refine ⟨h.1, ?_⟩
      by_cases hi : i < m.gs.size
      · have := h.1; omega
      · rw [Array.getElem?_eq_none (Nat.le_of_not_lt hi)] at hr; simp at hr
    · rfl
  · split
    · rename_i i n _
      split
      · rename_i hr
        refine ⟨h.1, ?_⟩
        by_cases hi : i < m.gs.size
        · have := h.1; omega
        · rw [Array.getElem?_eq_none (Nat.le_of_not_lt hi)] at hr; simp at hr
      · exact hask ⟨h.1, h.2.1, h.2.2⟩
    · exact hask h
theorem step_mine {p : Program} {m : Machine} {s : Stepped} {ops : Array MemOp} (h1 : Small m) (h : stepT p m = (s, ops)) : (∃ m', s = .next m' ∧ 2 ≤ m'.gs.size) ∨ Mine 0 ops := by
  have hk := move_ok (p := p) h1
  unfold stepT at h
  cases hm : move p m with
  | goroutine m1 i =>
    rw [hm] at h hk
    obtain ⟨h2, rfl⟩ := hk
    exact runT_mine h2 h
  | machine s' o =>
    rw [hm] at h hk
    simp only [Prod.mk.injEq] at h
    right
    rw [← h.2, (show o = #[] from hk)]
    exact Mine.nil 0
theorem Grown.small {m m' : Machine} (h : Grown m m') (h0 : 1 ≤ m.gs.size) (hs : Small m') : Small m :=
  ⟨by have := h.1; have := hs.1; omega, fun hv => hs.2.1 (h.2.1 hv), by
    cases hw : m.rest.watch with
    | false => rfl
    | true => have := h.2.2 hw; rw [hs.2.2] at this; cases this⟩
theorem runNT_mine {p : Program} : ∀ {n : Nat} {m last : Machine} {t : Trace}, 1 ≤ m.gs.size → Small last → runN p n m = .next last → ∃ t', runNT p n m t = (.next last, t') ∧ (Mine 0 t → Mine 0 t')
  | 0, m, last, t, _, _, h => by
    simp only [runN, Stepped.next.injEq] at h
    subst h
    exact ⟨t, rfl, id⟩
  | n + 1, m, last, t, h0, hl, h => by
    have hsm := (runN_grown h).small h0 hl
    rw [runN] at h
    cases hs : stepT p m with
    | mk s ops =>
      have e : step p m = s := by unfold step; rw [hs]
      rw [e] at h
      cases s with
      | next m1 =>
        have hsm1 := (runN_grown h).small (Nat.le_trans h0 (step_grown hs).1) hl
        obtain ⟨t', h2, h3⟩ := runNT_mine (t := t ++ ops) (by rw [hsm1.1]; exact Nat.le_refl _) hl h
        refine ⟨t', by rw [runNT, hs]; exact h2, fun ht => h3 (ht.append ?_)⟩
        rcases step_mine hsm hs with ⟨m', e, h4⟩ | h4
        · cases e; rw [hsm1.1] at h4; omega
        · exact h4
      | ended o w => cases h
theorem mine_g {t : Trace} (h : Mine 0 t) {i : Nat} {a : MemAct} (ha : t.act? i = some a) : t.g? i = some 0 := by
  unfold Trace.act? at ha
  unfold Trace.g?
  obtain ⟨op, hop, -⟩ := Option.map_eq_some_iff.1 ha
  rw [hop]
  have := h op (List.mem_of_getElem? (by simpa using hop))
  simp [this]
theorem mine_noRace {t : Trace} (h : Mine 0 t) (said : Bool) : ¬ Race said t := by
  rintro ⟨i, j, hij, ⟨a, b, ha, hb, -⟩, hn, -⟩
  obtain ⟨x, hx, -⟩ := Option.bind_eq_some_iff.1 ha
  obtain ⟨y, hy, -⟩ := Option.bind_eq_some_iff.1 hb
  exact hn (.single (.inl ⟨hij, 0, mine_g h hx, mine_g h hy⟩))
theorem mine_handed {t : Trace} (h : Mine 0 t) : t.HandedOver := by
  intro i g hg hne hc
  obtain ⟨x, hx, -⟩ := hc
  obtain ⟨y, hy, -⟩ := Option.bind_eq_some_iff.1 hx
  rw [mine_g h hy] at hg
  exact absurd (Option.some.inj hg).symm hne

/-- A CALL THAT STARTS NOTHING, FROM ITS CONTRACT TO ONE GOOD RUN. -/
theorem good_of_calls {P : Program} {f : FuncId} {args : Array Value} {W : World} {R : Value → World → Prop} (h : Calls P f args W fun | .returned v, w' => R v w' | _, _ => False) (hi : P.inits.idxOf? f = none) :
    ∃ M last o w' t', runNT P (M + 1) (Conc.solo (Conc.G (Frame.enter P f args .normal) []) W) #[] = (.ended o w', t') ∧ runN P M (Conc.solo (Conc.G (Frame.enter P f args .normal) []) W) = .next last ∧ step P last = .ended o w' ∧ Conc.Good P R last o w' t' := by
  obtain ⟨n, v, w', fr, hn, hend, hR⟩ := h.done_lone hi
  have hn' : runN P n (Conc.solo (Conc.G (Frame.enter P f args .normal) []) W) = .next (lone fr [] w') := hn
  have hl : Small (lone fr [] w') := ⟨rfl, by rintro ⟨t, ht, -⟩; simp [lone] at ht, rfl⟩
  have hstep : step P (lone fr [] w') = .ended (.done v) w' := by
    rw [runN_add, hn] at hend
    simp only [runN] at hend
    cases hs : step P (lone fr [] w') with
    | next m => rw [hs] at hend; cases hend
    | ended o w => rw [hs] at hend; exact hend
  obtain ⟨t1, h1, h2⟩ := runNT_mine (t := #[]) (by simp [Conc.solo]) hl hn'
  cases hs : stepT P (lone fr [] w') with
  | mk s ops =>
    have e : s = .ended (.done v) w' := by
      have : step P (lone fr [] w') = s := by unfold step; rw [hs]
      rw [← this, hstep]
    subst e
    have hm : Mine 0 (t1 ++ ops) := (h2 (Mine.nil 0)).append (by
      rcases step_mine hl hs with ⟨m', e, -⟩ | h4
      · cases e
      · exact h4)
    refine ⟨n, _, _, _, t1 ++ ops, ?_, hn', hstep, v, rfl, hR, mine_noRace hm, mine_handed hm, ⟨?_, rfl⟩, ?_⟩
    · rw [runNT_add, h1]
      simp only [runNT, hs]
    · intro g hg; simp [lone] at hg
    · intro i g hg hne
      have : i < 1 := (Array.getElem?_eq_some_iff.1 hg).1
      omega
end Go.Proofs.Ytlfodhejpbjfcaa
namespace Go.Proofs.Ytlfodhejpbjfcaa
open Go Go.Conc Go.ConcM
section
variable {H : Type} {enc : TypeId × Value → H}
theorem leaving_of_calls {a : Assume} {C : Checked} {os : Os} {f : FuncId} {fn : Func} {s : ChangeSpec} {F : Stop.Interp} {conds : List PathCond} {apart fresh handsOn : Bool}
    (own : ownKnob C.prog.godebug = none) (started : os.Started) (noInit : C.prog.inits.idxOf? f = none) (hfn : C.prog.funcs[f]? = some fn)
    (witness : ∃ (w : World) (tape : Tape) (i : Input), w.os = os ∧ (w.forCall tape i).Shaped C.prog ∧ i.vars = [] ∧ Input.okWide C.prog (w.forCall tape i) .any w.heap.size f i ∧
      s.pre6 enc C.prog fn conds apart (w.forCall tape i).memory i.args ∧ a.holds C.prog (lone (Frame.enter C.prog f i.args .normal) [] (w.forCall tape i)))
    (contract : ∀ (W : World) (base : Nat) (args : Array Value) (ds gs : List (DataW H)) (before : List MemPlace),
      (∀ (j : Nat) t v, fn.params[j]? = some t → args[j]? = some v → Value.okWide C.prog W .any base t v) →
      DataW.Whole enc C.prog fn.params.toList s.vars apart W args.toList ds gs before →
      conds.all (PathCond.test C.prog ⟨fn.params.toList, ds, s.plain.varTypes C.prog, gs⟩) = true →
      (DataW.weightsEach C.prog (fn.params.toList ++ s.plain.varTypes C.prog) (ds ++ gs)).all (· ≤ reachBytes) = true →
      Calls C.prog f args W fun e W' => ∃ v, e = .returned v ∧ s.post enc C.prog fn apart fresh handsOn false W args v W' ∧ W'.os = W.os) :
    ReturnsInLeavingWide a C os f .any (s.pre6 enc C.prog fn conds apart) ((OpenSpec.ofChange s).postWith enc C.prog fn F (outsideKept [.timePasses]) apart fresh handsOn) := by
  refine returnsInLeavingWide_of_change_time own started hfn witness ?_
  intro W base args ds gs before hval hW hc hz _
  refine good_of_calls ?_ noInit
  refine (contract W base args ds gs before hval hW hc hz).mono fun e W' h => ?_
  obtain ⟨v, rfl, hp, hos⟩ := h
  refine ⟨?_, ⟨0, ?_⟩⟩
  · have e : ({ W' with os := W.os } : World) = W' := by rw [← hos]
    rw [e]; exact hp
  · rw [hos]; rfl
end
end Go.Proofs.Ytlfodhejpbjfcaa
