/- The trace of a run that begins and ends with one goroutine. No program. -/
import Derived.Conc.HoldsTime
import Derived.Conc.Fork
import Derived.Eval
namespace Go.Proofs.Ytlfodhejpbjfcaa
open Go

def HasVar (ts : Array Timer) : Prop := ∃ t ∈ ts.toList, ∃ a, t.name = .var a
/-- What never goes away again. -/
def Grown (m m' : Machine) : Prop := m.gs.size ≤ m'.gs.size ∧ (HasVar m.rest.timers → HasVar m'.rest.timers) ∧ (m.rest.watch = true → m'.rest.watch = true)
theorem Grown.refl (m : Machine) : Grown m m := ⟨Nat.le_refl _, id, id⟩
theorem Grown.trans {a b c : Machine} (h : Grown a b) (k : Grown b c) : Grown a c := ⟨Nat.le_trans h.1 k.1, k.2.1 ∘ h.2.1, k.2.2 ∘ h.2.2⟩
theorem Grown.of {m m' : Machine} (h : m.gs.size ≤ m'.gs.size) (hr : m'.rest.timers = m.rest.timers) (hw : m.rest.watch = true → m'.rest.watch = true) : Grown m m' := ⟨h, by rw [hr]; exact id, hw⟩

theorem swap_size (gs : Array Goroutine) (i : Nat) (v : Goroutine) : (gs.swapAt! i v).2.size = gs.size := by
  unfold Array.swapAt!
  split
  · simp [Array.swapAt]
  · rfl

theorem giveWork_size (p : Program) (gs : Array Goroutine) (r : Option Nat) (work : List Item) (b : Bool) : gs.size ≤ (giveWork p gs r work b).1.size := by
  unfold giveWork
  cases r <;> simp

theorem look_grown {p : Program} {gs : Array Goroutine} {rest : Rest} {w : World} {m' : Machine} (h : look p gs rest w = .next m') : gs.size ≤ m'.gs.size ∧ m'.rest = rest := by
  unfold look at h
  simp only at h
  repeat' split at h
  all_goals first
    | (simp only [reduceCtorEq] at h; done)
    | skip
  all_goals
    simp only [Stepped.next.injEq] at h
    subst h
    refine ⟨?_, rfl⟩
    simp only
    repeat' split
    all_goals first
      | exact Nat.le_refl _
      | exact giveWork_size ..
      | exact Nat.le_trans (giveWork_size ..) (giveWork_size ..)

theorem HasVar.set {ts : Array Timer} {k : Nat} {t t' : Timer} (hk : ts[k]? = some t) (hn : t'.name = t.name) (h : HasVar ts) : HasVar (ts.setIfInBounds k t') := by
  obtain ⟨x, hx, a, ha⟩ := h
  obtain ⟨j, hj, hjx⟩ := List.getElem_of_mem hx
  have hk2 : k < ts.size := (Array.getElem?_eq_some_iff.1 hk).1
  by_cases e : k = j
  · subst e
    have e2 : t = x := by
      have : ts[k]? = some x := by rw [Array.getElem?_eq_getElem hk2]; simpa using hjx
      rw [hk] at this; exact Option.some.inj this
    refine ⟨t', ?_, a, by rw [hn, e2, ha]⟩
    rw [Array.toList_setIfInBounds]
    exact List.mem_iff_getElem?.2 ⟨k, by simp [hk2]⟩
  · refine ⟨x, ?_, a, ha⟩
    rw [Array.toList_setIfInBounds]
    refine List.mem_iff_getElem?.2 ⟨j, ?_⟩
    rw [List.getElem?_set_ne e, List.getElem?_eq_getElem hj, hjx]
theorem HasVar.push {ts : Array Timer} (t : Timer) (h : HasVar ts) : HasVar (ts.push t) := by
  obtain ⟨x, hx, a, ha⟩ := h
  exact ⟨x, by simp at hx ⊢; exact .inl hx, a, ha⟩
theorem find_name {ts : Array Timer} {var : Addr} {k : Nat} (h : ts.findIdx? (fun t => t.name == .var var) = some k) : ts[k]? = some (ts.getD k default) := by
  have h1 := Array.findIdx?_eq_some_iff_getElem.1 h
  obtain ⟨hk, -⟩ := h1
  rw [Array.getElem?_eq_getElem hk]
  simp [Array.getD, hk]
theorem retime_grown (m : Machine) (k : Nat) (t : Timer) (wh pe : Nat) (hk : m.rest.timers[k]? = some t) : Grown m (retime m k t wh pe).2 := by
  unfold retime
  refine ⟨Nat.le_refl _, fun h => ?_, id⟩
  exact HasVar.set hk rfl h
theorem timerOp_grown {m m' : Machine} {op : TimerOp} {v : Value} (h : timerOp m op = .ok (v, m')) : Grown m m' := by
  unfold timerOp at h
  split at h
  · split at h
    · simp only [Except.ok.injEq, Prod.mk.injEq] at h
      obtain ⟨-, rfl⟩ := h
      exact ⟨Nat.le_refl _, fun h => h.push _, id⟩
    · split at h
      · split at h
        · cases h
        · simp only [Except.ok.injEq, Prod.mk.injEq] at h
          obtain ⟨-, rfl⟩ := h
          exact ⟨Nat.le_refl _, fun h => h.push _, id⟩
      · cases h
  · unfold timerOp.named at h
    split at h
    · rename_i k hk
      simp only [Except.ok.injEq] at h
      have := retime_grown m k (m.rest.timers.getD k default) 0 (m.rest.timers.getD k default).period (find_name hk)
      rw [h] at this
      exact this
    · cases h
  · split at h
    · rename_i m1 hm1
      have g1 : Grown m m1 ∧ m1.rest = m.rest := by
        unfold timerOp.opened at hm1
        split at hm1
        · split at hm1
          · cases hm1; exact ⟨Grown.refl _, rfl⟩
          · cases hm1
        · cases hm1; exact ⟨Grown.refl _, rfl⟩
      unfold timerOp.named at h
      split at h
      · rename_i k hk
        simp only [Except.ok.injEq] at h
        have hk1 : m1.rest.timers[k]? = some (m.rest.timers.getD k default) := by rw [g1.2]; exact find_name hk
        have e := (congrArg Prod.snd h).symm
        simp only at e
        rw [e]
        exact g1.1.trans (retime_grown m1 k _ _ _ hk1)
      · cases h
    · cases h
  · simp only [Except.ok.injEq, Prod.mk.injEq] at h
    obtain ⟨-, rfl⟩ := h
    refine ⟨Nat.le_refl _, fun h => ?_, id⟩
    obtain ⟨x, hx, a, ha⟩ := h
    refine ⟨x, ?_, a, ha⟩
    simp only [Machine.withTimers, Array.toList_append, List.mem_append]
    left
    rw [Array.toList_filter]
    refine List.mem_filter.2 ⟨hx, ?_⟩
    rw [ha]
    simp
theorem serve_grown {p : Program} {m m' : Machine} {k : Nat} (h : serve p m k = .next m') : Grown m m' := by
  unfold serve at h
  split at h
  · cases h
  · rename_i hk
    simp only [Stepped.next.injEq] at h
    subst h
    refine ⟨by simp [Machine.withTimers], fun h => ?_, id⟩
    obtain ⟨x, hx, a, ha⟩ := h
    refine ⟨x, ?_, a, ha⟩
    have hk2 := (Array.getElem?_eq_some_iff.1 hk).1
    simp only [Machine.withTimers]
    unfold Array.eraseIdxIfInBounds
    rw [dif_pos hk2, Array.toList_eraseIdx]
    obtain ⟨j, hj, hjx⟩ := List.getElem_of_mem hx
    refine List.mem_eraseIdx_iff_getElem?.2 ⟨j, fun e => ?_, by rw [List.getElem?_eq_getElem hj, hjx]⟩
    subst e
    have : m.rest.timers[j]? = some x := by rw [Array.getElem?_eq_getElem hk2]; simpa using hjx
    rw [hk] at this
    cases this
    cases ha
  · rename_i t hk
    simp only at h
    split at h
    · cases h
    · simp only [Stepped.next.injEq] at h
      subst h
      exact ⟨by simp, fun h => HasVar.set hk rfl h, id⟩
theorem finishPartner_size (p : Program) (gs : Array Goroutine) (h k : Nat) (v : Value) : (finishPartner p gs h k v).size = gs.size := by simp [finishPartner]
theorem communicate_grown {p : Program} {rest : Rest} {gs : Array Goroutine} {i : Nat} {g : Goroutine} {cases : Array CommCase} {bl : Bool} {sh : CommShape} {w : World} {m' : Machine} {ops : Array MemOp} (h : communicate p rest gs i g cases bl sh w = (.next m', ops)) : m'.gs.size = gs.size ∧ m'.rest = rest := by
  unfold communicate at h
  simp only at h
  repeat' split at h
  all_goals first
    | (simp only [Prod.mk.injEq, Stepped.next.injEq, reduceCtorEq, false_and] at h; done)
    | (simp only [Prod.mk.injEq, Stepped.next.injEq] at h; obtain ⟨rfl, -⟩ := h; exact ⟨by simp [finishPartner_size], rfl⟩)
theorem runT_grown {p : Program} {m m' : Machine} {i : Nat} {l : Bool} {ops : Array MemOp} (h : runT p m i l = (.next m', ops)) : Grown m m' := by
  have hs := swap_size m.gs i { (default : Goroutine) with status := .finished }
  unfold runT at h
  generalize m.gs.swapAt! i { (default : Goroutine) with status := .finished } = sw at hs h
  obtain ⟨g, gs⟩ := sw
  simp only at h hs
  split at h
  · simp only [Prod.mk.injEq, reduceCtorEq, false_and] at h
  · simp only [Prod.mk.injEq] at h
    obtain ⟨h1, -⟩ := h
    have h2 := communicate_grown (Prod.ext h1 rfl)
    exact Grown.of (by rw [h2.1, hs]; exact Nat.le_refl _) (by rw [h2.2]) (by rw [h2.2]; exact id)
  · simp only [Prod.mk.injEq, Stepped.next.injEq] at h
    obtain ⟨rfl, -⟩ := h
    refine ⟨?_, ?_, ?_⟩
    · simp only
      split <;> simp [hs]
    · simp only; split <;> exact id
    · simp only; split <;> exact id
  · simp only [Prod.mk.injEq, Stepped.next.injEq] at h
    obtain ⟨rfl, -⟩ := h
    exact Grown.of (by simp [hs]) rfl id
  · simp only [Prod.mk.injEq] at h
    obtain ⟨h, -⟩ := h
    split at h
    · cases h
    · simp only [Stepped.next.injEq] at h
      subst h
      exact Grown.of (by simp [hs]) rfl id
  · simp only [Prod.mk.injEq, Stepped.next.injEq] at h
    obtain ⟨rfl, -⟩ := h
    exact Grown.of (by simp [hs]) rfl id
  · simp only [Prod.mk.injEq] at h
    obtain ⟨h, -⟩ := h
    have h2 := look_grown h
    exact Grown.of (by have := h2.1; simp [hs] at this; exact this) (by rw [h2.2]) (by rw [h2.2]; exact id)
  · simp only [Prod.mk.injEq, Stepped.next.injEq] at h
    obtain ⟨rfl, -⟩ := h
    exact Grown.of (by simp [hs]) rfl (fun e => by simp [e])
  · simp only [Prod.mk.injEq, Stepped.next.injEq] at h
    obtain ⟨rfl, -⟩ := h
    exact Grown.of (by simp [hs]) rfl id
  · simp only [Prod.mk.injEq] at h
    obtain ⟨h, -⟩ := h
    split at h
    · simp only [Stepped.next.injEq] at h
      subst h
      exact Grown.of (by simp [hs]) rfl id
    · split at h
      · simp only [Stepped.next.injEq] at h
        subst h
        exact Grown.of (by simp [hs]) rfl id
      · cases h
    · cases h
  · simp only [Prod.mk.injEq] at h
    obtain ⟨h, -⟩ := h
    split at h
    · rename_i hm
      simp only [Stepped.next.injEq] at h
      subst h
      have h2 := timerOp_grown hm
      exact ⟨by have := h2.1; simp [hs] at this ⊢, h2.2.1, h2.2.2⟩
    · split at h
      · simp only [Stepped.next.injEq] at h
        subst h
        exact Grown.of (by simp [hs]) rfl id
      · cases h
    · cases h
    · cases h

def MoveGr (m : Machine) : Move → Prop
  | .goroutine m1 _ => Grown m m1
  | .machine (.next m') _ => Grown m m'
  | .machine _ _ => True
theorem advance_grown (m : Machine) (t : Nat) : Grown m (m.advanceTo t) := Grown.of (Nat.le_refl _) rfl id
theorem serve_gr {p : Program} {m m1 : Machine} {k : Nat} {ops : Array MemOp} (h : Grown m m1) : MoveGr m (.machine (serve p m1 k) ops) := by
  cases hs : serve p m1 k with
  | next m' => exact h.trans (serve_grown hs)
  | ended o w => trivial
theorem askOn_gr (p : Program) (m : Machine) : MoveGr m (askOn p m) := by
  unfold askOn
  simp only
  repeat' split
  all_goals first
    | exact True.intro
    | exact serve_gr (Grown.of (Nat.le_refl _) rfl id)
    | exact Grown.of (Nat.le_refl _) rfl id
theorem ask_gr (p : Program) (m : Machine) : MoveGr m (ask p m) := by
  unfold ask
  split
  · split
    · trivial
    · rename_i w hw
      cases hl : look p m.gs m.rest w with
      | next m1 =>
        have h2 := look_grown hl
        have h3 : Grown m m1 := Grown.of h2.1 (by rw [h2.2]) (by rw [h2.2]; exact id)
        have h4 := askOn_gr p m1
        simp only
        cases ha : askOn p m1 with
        | goroutine m2 i => rw [ha] at h4; exact h3.trans h4
        | machine s ops =>
          rw [ha] at h4
          cases s with
          | next m' => exact h3.trans h4
          | ended o w => trivial
      | ended o w => trivial
    · rename_i k w hk hw
      have h4 := askOn_gr p { m with world := w }
      cases ha : askOn p { m with world := w } with
      | goroutine m2 i => rw [ha] at h4; exact h4
      | machine s ops =>
        rw [ha] at h4
        cases s with
        | next m' => exact h4
        | ended o w => trivial
  · exact askOn_gr p m
theorem move_gr (p : Program) (m : Machine) : MoveGr m (move p m) := by
  unfold move
  split
  · split
    · exact Grown.refl _
    · trivial
  · split
    · split
      · exact Grown.of (Nat.le_refl _) rfl id
      · have h4 := ask_gr p { m with rest := { m.rest with slice := none } }
        cases ha : ask p { m with rest := { m.rest with slice := none } } with
        | goroutine m2 i => rw [ha] at h4; exact h4
        | machine s ops =>
          rw [ha] at h4
          cases s with
          | next m' => exact h4
          | ended o w => trivial
    · exact ask_gr p m
theorem step_grown {p : Program} {m m' : Machine} {ops : Array MemOp} (h : stepT p m = (.next m', ops)) : Grown m m' := by
  have h1 := move_gr p m
  unfold stepT at h
  cases hm : move p m with
  | goroutine m1 i =>
    rw [hm] at h h1
    exact h1.trans (runT_grown h)
  | machine s o =>
    rw [hm] at h h1
    simp only [Prod.mk.injEq] at h
    obtain ⟨rfl, -⟩ := h
    exact h1
theorem runN_grown {p : Program} : ∀ {n : Nat} {m m' : Machine}, runN p n m = .next m' → Grown m m'
  | 0, m, m', h => by simp only [runN, Stepped.next.injEq] at h; subst h; exact Grown.refl _
  | n + 1, m, m', h => by
    rw [runN] at h
    cases hs : stepT p m with
    | mk s ops =>
      have e : step p m = s := by unfold step; rw [hs]
      rw [e] at h
      cases s with
      | next m1 => exact (step_grown hs).trans (runN_grown h)
      | ended o w => cases h
end Go.Proofs.Ytlfodhejpbjfcaa
