/- How the box and its transactions stand to the reference. No walk.
How Commit stands to the reference's Commit. No walk.
New stands to the reference's New as the box to its versions. No walk. -/
import Derived.Test.YtlfodhejpbjfcaaCom2
import Derived.Test.YtlfodhejpbjfcaaRfu
set_option linter.unusedVariables false
set_option linter.unusedSimpArgs false
namespace Go.Proofs.Ytlfodhejpbjfcaa
open Go.RowKit
namespace S
/-- The last version's names. -/
def lastL (Vs : List Ver) : Nm := (Vs.getLast?.map Prod.fst).getD []
structure BoxInv (X : Bx) (Vs : List Ver) : Prop where
  pos : 0 < Vs.length
  num : X.N = (Vs.length : Int) - 1
  sorted : Sorted sd.lt X.T.toList
  list : X.T.toList = lastL Vs
  last0 : ∀ s, 0 ≤ lastOf X.last s
  last1 : ∀ s (n : Int), 0 ≤ n → (n < lastOf X.last s ↔ ∃ (i : Nat) (h : i < Vs.length), n < (i : Int) ∧ inR s Vs[i].2 = true)
  valid : ∀ s, (getA s X.T.toList).isSome = true → okName s
  hist : ∀ (i : Nat) (h : i + 1 < Vs.length) (s : ByteArray), inR s Vs[i + 1].2 = false → getA s Vs[i + 1].1 = getA s (Vs[i]'(by omega)).1
structure TxInv (N : Int) (x : Tx) (t : RT) : Prop where
  began : x.n = t.began
  done : x.d = t.done
  lo : 0 ≤ x.n
  hi : x.n ≤ N
  sortedT : Sorted sd.lt x.T.toList
  sortedS : Sorted sd.lt t.sees
  sees : ∀ s, getA s t.sees = chgV (getA s x.ch) (getA s x.T.toList)
  changed : ∀ s, inR s t.changed = (getA s x.ch).isSome
  read : ∀ s, inR s t.read = (getA s x.rd).isSome
  nil : x.ch = [] ↔ t.changed = []
  validS : ∀ s, (getA s t.sees).isSome = true → okName s
theorem TxInv.mono {N N' : Int} {x : Tx} {t : RT} (h : TxInv N x t) (hn : N ≤ N') : TxInv N' x t := { h with hi := Int.le_trans h.hi hn }
theorem inR_snoc' (s s' : ByteArray) (l : List ByteArray) : inR s' (l ++ [s]) = (inR s' l || decide (s = s')) := by
  unfold inR
  rw [List.any_append, List.any_cons, List.any_nil, Bool.or_false, beq_eq]
theorem getA_put_isSome {ν : Type} {s s' : ByteArray} {v : ν} {l : List (ByteArray × ν)} : (getA s' (putA s v l)).isSome = ((getA s' l).isSome || decide (s = s')) := by
  rw [getA_put]
  by_cases h : s = s'
  · rw [if_pos h, decide_eq_true h]; simp
  · rw [if_neg h, decide_eq_false h]; simp
theorem inv_begin {X : Bx} {Vs : List Ver} (h : BoxInv X Vs) (t r c : Nat) : TxInv X.N ⟨t, r, c, X.N, X.q, X.T, false, [], []⟩ (beginR Vs) where
  began := h.num
  done := rfl
  lo := by have h1 := h.num; have h2 := h.pos; show 0 ≤ X.N; omega
  hi := Int.le_refl _
  sortedT := h.sorted
  sortedS := by show Sorted sd.lt (lastL Vs); rw [← h.list]; exact h.sorted
  sees s := by
    show getA s (lastL Vs) = chgV none (getA s X.T.toList)
    rw [h.list]; rfl
  changed s := rfl
  read s := rfl
  nil := by simp [beginR]
  validS s := by
    show (getA s (lastL Vs)).isSome = true → okName s
    rw [← h.list]; exact h.valid s
/-- What a transaction sees. -/
theorem TxInv.find {N : Int} {x : Tx} {t : RT} (h : TxInv N x t) (s : ByteArray) : (match getA s x.ch with
    | some y => if y.2 then ((0 : Int), (5 : Int)) else (y.1, 0)
    | none => match findF sd.lt s x.T with
      | .nil => (0, 5)
      | .node _ _ v _ => (v, 0)) = (match findR s t.sees with | some p => (p.2, 0) | none => (0, 5)) := by
  rw [findR_getA, h.sees s]
  cases hg : getA s x.ch with
  | some y =>
    obtain ⟨v, d⟩ := y
    cases d <;> rfl
  | none =>
    have hf := findF_getA h.sortedT s
    simp only [chgV]
    rw [← hf]
    cases findF sd.lt s x.T <;> rfl
theorem inv_read {N : Int} {x : Tx} {t : RT} (h : TxInv N x t) (s : ByteArray) : TxInv N { x with rd := readN x.rd x.ch s } (readRT t s) := by
  have hc := h.changed s
  unfold readRT readN
  cases hg : getA s x.ch with
  | some y =>
    rw [hg] at hc
    rw [if_pos (by rw [hc]; rfl)]
    exact { h with }
  | none =>
    rw [hg] at hc
    rw [if_neg (by rw [hc]; simp)]
    exact { h with read := fun s' => by show inR s' (t.read ++ [s]) = _; rw [inR_snoc', getA_put_isSome, h.read s'] }
theorem inv_get {N : Int} {x : Tx} {t : RT} (h : TxInv N x t) (s : ByteArray) : getR x.d x.ch x.T s = ((getRT t s).2.1, (getRT t s).2.2) ∧ TxInv N { x with rd := readG x.d x.rd x.ch s } (getRT t s).1 := by
  obtain ⟨xt, xr, xc, xn, xq, xT, xd, xrd, xch⟩ := x
  dsimp only
  have hd := h.done
  dsimp only at hd
  cases xd with
  | true =>
    have e : getRT t s = (t, 0, 7) := by unfold getRT; rw [← hd]; rfl
    rw [e]
    refine ⟨rfl, ?_⟩
    have e2 : readG true xrd xch s = xrd := rfl
    rw [e2]
    exact h
  | false =>
    by_cases hk : okName s
    · have hck : chk false s = 0 := by simp [chk, hk]
      have hf := h.find s
      have e1 : getR false xch xT s = (match findR s t.sees with | some p => (p.2, 0) | none => (0, 5)) := by unfold getR; rw [if_pos hck]; exact hf
      have e2 : readG false xrd xch s = readN xrd xch s := by unfold readG; rw [if_pos hck]
      rw [e1, e2]
      unfold getRT
      rw [← hd, if_neg (by decide), if_pos hk]
      cases findR s t.sees with
      | some p => exact ⟨rfl, inv_read h s⟩
      | none => exact ⟨rfl, inv_read h s⟩
    · have hck : chk false s = 13 := by simp [chk, hk]
      have e1 : getR false xch xT s = (0, 13) := by unfold getR; rw [hck]; rfl
      have e2 : readG false xrd xch s = xrd := by unfold readG; rw [hck]; rfl
      have e : getRT t s = (t, 0, 13) := by unfold getRT; rw [← hd, if_neg (by decide), if_neg hk]
      rw [e1, e2, e]
      exact ⟨rfl, h⟩
theorem chgV_put {ch : List (ByteArray × (Int × Bool))} {s s' : ByteArray} {y : Int × Bool} {old : Option Int} : chgV (getA s' (putA s y ch)) old = if s = s' then chgV (some y) none else chgV (getA s' ch) old := by
  rw [getA_put]
  by_cases e : s = s'
  · rw [if_pos e, if_pos e]
    obtain ⟨v, d⟩ := y
    cases d <;> rfl
  · rw [if_neg e, if_neg e]
theorem putA_ne {ν : Type} {s : ByteArray} {v : ν} : ∀ {l : List (ByteArray × ν)}, putA s v l ≠ []
  | [] => by simp [putA]
  | p :: l => by rw [putA]; split <;> simp
/-- A change noted on both sides. -/
theorem inv_chg {N : Int} {x : Tx} {t : RT} (h : TxInv N x t) (s : ByteArray) (y : Int × Bool) (hok : okName s) (S : Nm) (hS : Sorted sd.lt S) (hg : ∀ s', getA s' S = if s = s' then chgV (some y) none else getA s' t.sees) :
    TxInv N { x with ch := putA s y x.ch } (finRT { t with sees := S } s) := by
  have hc := h.changed s
  have hsees : ∀ s', getA s' S = chgV (getA s' (putA s y x.ch)) (getA s' x.T.toList) := fun s' => by rw [hg s', chgV_put, h.sees s']
  have hval : ∀ s', (getA s' S).isSome = true → okName s' := fun s' hs' => by
    rw [hg s'] at hs'
    split at hs'
    · rename_i e; subst e; exact hok
    · exact h.validS s' hs'
  unfold finRT
  by_cases hin : inR s t.changed = true
  · rw [if_pos hin]
    exact { h with
      sortedS := hS
      validS := hval
      sees := hsees
      changed := fun s' => by
        show inR s' t.changed = _
        rw [getA_put_isSome, h.changed s']
        by_cases e : s = s'
        · subst e; rw [← hc, hin]; rfl
        · rw [decide_eq_false e, Bool.or_false]
      nil := by
        constructor
        · intro e; exact absurd e putA_ne
        · intro e
          have e' : t.changed = [] := e
          rw [e'] at hin; cases hin }
  · rw [if_neg hin]
    exact { h with
      sortedS := hS
      validS := hval
      sees := hsees
      changed := fun s' => by
        show inR s' (t.changed ++ [s]) = _
        rw [inR_snoc', getA_put_isSome, h.changed s']
      nil := by
        constructor
        · intro e; exact absurd e putA_ne
        · intro e
          have e' : t.changed ++ [s] = [] := e
          simp at e' }
theorem inv_put {N : Int} {x : Tx} {t : RT} (h : TxInv N x t) (s : ByteArray) (z : Int) : chk x.d s = (chgRT t s z false).2 ∧ TxInv N { x with ch := putN x.d x.ch s z } (chgRT t s z false).1 := by
  obtain ⟨xt, xr, xc, xn, xq, xT, xd, xrd, xch⟩ := x
  dsimp only
  have hd := h.done
  dsimp only at hd
  cases xd with
  | true =>
    have e : chgRT t s z false = (t, 7) := by unfold chgRT; rw [← hd]; rfl
    rw [e]
    exact ⟨rfl, by have e2 : putN true xch s z = xch := rfl
                   rw [e2]; exact h⟩
  | false =>
    by_cases hk : okName s
    · have hck : chk false s = 0 := by simp [chk, hk]
      have e2 : putN false xch s z = putA s (z, false) xch := by unfold putN; rw [if_pos hck]
      have e : chgRT t s z false = (finRT { t with sees := putR s z t.sees } s, 0) := by unfold chgRT; rw [← hd, if_neg (by decide), if_pos hk]; rfl
      rw [hck, e2, e]
      refine ⟨rfl, inv_chg h s (z, false) hk _ ?_ ?_⟩
      · rw [putR_eq h.sortedS]; exact insL_sorted strict_sd h.sortedS
      · intro s'; rw [putR_eq h.sortedS, getA_ins h.sortedS]; rfl
    · have hck : chk false s = 13 := by simp [chk, hk]
      have e2 : putN false xch s z = xch := by unfold putN; rw [hck]; rfl
      have e : chgRT t s z false = (t, 13) := by unfold chgRT; rw [← hd, if_neg (by decide), if_neg hk]
      rw [hck, e2, e]
      exact ⟨rfl, h⟩
theorem inv_drop {N : Int} {x : Tx} {t : RT} (h : TxInv N x t) (s : ByteArray) (z : Int) : dropE x.d x.ch x.T s = (chgRT t s z true).2 ∧ TxInv N { x with rd := readG x.d x.rd x.ch s, ch := dropN x.d x.ch x.T s } (chgRT t s z true).1 := by
  obtain ⟨g1, g2⟩ := inv_get h s
  have hd := h.done
  have e0 : dropE x.d x.ch x.T s = (getRT t s).2.2 := by unfold dropE; rw [g1]
  have e1 : dropN x.d x.ch x.T s = if (getRT t s).2.2 = 0 then putA s (0, true) x.ch else x.ch := by unfold dropN; rw [g1]
  rw [e0, e1]
  by_cases hz : (getRT t s).2.2 = 0
  · rw [if_pos hz, hz]
    have hnd : t.done = false := by
      cases hdd : t.done with
      | false => rfl
      | true => have : getRT t s = (t, 0, 7) := by unfold getRT; rw [hdd]; rfl
                rw [this] at hz; cases hz
    have hk : okName s := by
      by_cases hk : okName s
      · exact hk
      · have : getRT t s = (t, 0, 13) := by unfold getRT; rw [hnd, if_neg (by decide), if_neg hk]
        rw [this] at hz; cases hz
    have e : chgRT t s z true = (finRT { (getRT t s).1 with sees := dropR s (getRT t s).1.sees } s, 0) := by unfold chgRT; rw [hnd, if_neg (by decide), if_pos hk, if_pos rfl, if_pos hz]
    rw [e]
    refine ⟨rfl, ?_⟩
    have := inv_chg g2 s (0, true) hk (dropR s (getRT t s).1.sees) (by rw [dropR_eq]; exact delL_sorted g2.sortedS) (fun s' => by rw [dropR_eq, getA_del]; rfl)
    exact this
  · rw [if_neg hz]
    have e : chgRT t s z true = ((getRT t s).1, (getRT t s).2.2) := by
      unfold chgRT
      cases hdd : t.done with
      | true => have e7 : getRT t s = (t, 0, 7) := by unfold getRT; rw [hdd]; rfl
                rw [e7]; rfl
      | false =>
        rw [if_neg (by decide)]
        by_cases hk : okName s
        · rw [if_pos hk, if_pos rfl, if_neg hz]
        · have e13 : getRT t s = (t, 0, 13) := by unfold getRT; rw [hdd, if_neg (by decide), if_neg hk]
          rw [if_neg hk, e13]
    rw [e]
    exact ⟨rfl, g2⟩
end S
end Go.Proofs.Ytlfodhejpbjfcaa
namespace Go.Proofs.Ytlfodhejpbjfcaa
open Go.RowKit
namespace S
theorem conf_iff {α : Type} {m : List (ByteArray × Int)} {n : Int} {L : List (ByteArray × α)} : conf m n L = true ↔ ∃ s, (getA s L).isSome = true ∧ n < lastOf m s := by
  unfold conf
  rw [List.any_eq_true]
  constructor
  · rintro ⟨p, hp, h⟩
    exact ⟨p.1, getA_isSome.2 (List.mem_map.2 ⟨p, hp, rfl⟩), by simpa using h⟩
  · rintro ⟨s, hs, h⟩
    obtain ⟨p, hp, rfl⟩ := List.mem_map.1 (getA_isSome.1 hs)
    exact ⟨p, hp, by simpa using h⟩
theorem confR_iff {Vs : List Ver} {t : RT} (h0 : 0 ≤ t.began) : confR Vs t = true ↔ ∃ (i : Nat) (h : i < Vs.length), t.began < (i : Int) ∧ ∃ s, inR s Vs[i].2 = true ∧ (inR s t.read || inR s t.changed) = true := by
  constructor
  · intro h
    unfold confR at h
    obtain ⟨V, hV, h⟩ := List.any_eq_true.1 h
    obtain ⟨j, hj, rfl⟩ := List.mem_iff_getElem.1 hV
    rw [List.length_drop] at hj
    rw [List.getElem_drop] at h
    obtain ⟨s, hs, h⟩ := List.any_eq_true.1 h
    exact ⟨t.began.toNat + 1 + j, by omega, by omega, s, (inR_iff _ _).2 hs, h⟩
  · rintro ⟨i, hi, hb, s, hs, h⟩
    exact confR_at hi (by omega) s ((inR_iff _ _).1 hs) h
theorem conf_eq {X : Bx} {Vs : List Ver} {x : Tx} {t : RT} (hB : BoxInv X Vs) (h : TxInv X.N x t) : (conf X.last x.n x.rd || conf X.last x.n x.ch) = confR Vs t := by
  rw [Bool.eq_iff_iff, Bool.or_eq_true, conf_iff, conf_iff, confR_iff (by rw [← h.began]; exact h.lo)]
  constructor
  · rintro (⟨s, hs, hl⟩ | ⟨s, hs, hl⟩)
    · obtain ⟨i, hi, h1, h2⟩ := (hB.last1 s x.n h.lo).1 hl
      exact ⟨i, hi, by rw [← h.began]; exact h1, s, h2, by rw [h.read s, hs]; rfl⟩
    · obtain ⟨i, hi, h1, h2⟩ := (hB.last1 s x.n h.lo).1 hl
      exact ⟨i, hi, by rw [← h.began]; exact h1, s, h2, by rw [h.changed s, hs, Bool.or_true]⟩
  · rintro ⟨i, hi, hb, s, hs, hp⟩
    have hl := (hB.last1 s x.n h.lo).2 ⟨i, hi, by rw [h.began]; exact hb, hs⟩
    rw [h.read s, h.changed s, Bool.or_eq_true] at hp
    rcases hp with hp | hp
    · exact .inl ⟨s, hp, hl⟩
    · exact .inr ⟨s, hp, hl⟩
theorem lastL_snoc (Vs : List Ver) (V : Ver) : lastL (Vs ++ [V]) = V.1 := by unfold lastL; simp
theorem chgV_some (y : Int × Bool) (a b : Option Int) : chgV (some y) a = chgV (some y) b := by
  obtain ⟨v, d⟩ := y
  cases d <;> rfl
theorem box_commit {X : Bx} {Vs : List Ver} {x : Tx} {t : RT} (hB : BoxInv X Vs) (h : TxInv X.N x t) (hn : (x.ch.map Prod.fst).Nodup) {q' : Option Addr} {L : List (ByteArray × (Int × Bool))} (hL : L.Perm x.ch) :
    BoxInv ⟨X.b, X.m, X.N + 1, q', appN X.T L, lastN X.last (X.N + 1) L⟩ (Vs ++ [(seenN t.sees (lastL Vs) t.changed, t.changed)]) := by
  have hnL : (L.map Prod.fst).Nodup := (hL.map Prod.fst).nodup_iff.2 hn
  have hg : ∀ s, getA s L = getA s x.ch := fun s => getA_perm hL hnL s
  have hl0 : Sorted sd.lt (lastL Vs) := by rw [← hB.list]; exact hB.sorted
  have hp := hB.pos
  have hnum := hB.num
  refine ⟨by simp, ?_, appN_sorted L hB.sorted, ?_, ?_, ?_, ?_, ?_⟩
  · show X.N + 1 = ((Vs ++ [(seenN t.sees (lastL Vs) t.changed, t.changed)]).length : Int) - 1
    rw [List.length_append, List.length_singleton]; omega
  · rw [lastL_snoc]
    refine sorted_ext (appN_sorted L hB.sorted) (seenN_sorted t.changed hl0) fun s => ?_
    rw [appN_get L hB.sorted hnL s, seenN_get t.changed s hl0, hg s, h.changed s, hB.list]
    cases hc : getA s x.ch with
    | some y =>
      rw [if_pos (by rfl), h.sees s, hc]
      exact chgV_some _ _ _
    | none => rw [if_neg (by simp)]; rfl
  · intro s
    show 0 ≤ lastOf (lastN X.last (X.N + 1) L) s
    unfold lastOf
    rw [lastN_get]
    split
    · simp; omega
    · exact hB.last0 s
  · intro s n hn0
    show n < lastOf (lastN X.last (X.N + 1) L) s ↔ _
    have hlast : lastOf (lastN X.last (X.N + 1) L) s = if (getA s L).isSome then X.N + 1 else lastOf X.last s := by
      unfold lastOf
      rw [lastN_get]
      split <;> rfl
    rw [hlast, hg s, ← h.changed s]
    by_cases hc : inR s t.changed = true
    · rw [if_pos hc]
      constructor
      · intro hlt
        exact ⟨Vs.length, by simp, by omega, by simpa using hc⟩
      · rintro ⟨i, hi, h1, -⟩
        rw [List.length_append, List.length_singleton] at hi
        omega
    · rw [if_neg hc, hB.last1 s n hn0]
      constructor
      · rintro ⟨i, hi, h1, h2⟩
        exact ⟨i, by simp; omega, h1, by rw [List.getElem_append_left hi]; exact h2⟩
      · rintro ⟨i, hi, h1, h2⟩
        rw [List.length_append, List.length_singleton] at hi
        by_cases e : i < Vs.length
        · exact ⟨i, e, h1, by rwa [List.getElem_append_left e] at h2⟩
        · exfalso
          have e2 : i = Vs.length := by omega
          subst e2
          apply hc
          simpa using h2
  · intro s
    show (getA s (appN X.T L).toList).isSome = true → okName s
    rw [appN_get L hB.sorted hnL s, hg s]
    intro hs
    cases hc : getA s x.ch with
    | none => rw [hc] at hs; exact hB.valid s hs
    | some y =>
      rw [hc] at hs
      refine h.validS s ?_
      rw [h.sees s, hc, chgV_some y _ (getA s X.T.toList)]
      exact hs
  · intro i hi s hs
    rw [List.length_append, List.length_singleton] at hi
    by_cases e : i + 1 < Vs.length
    · have e1 : (Vs ++ [(seenN t.sees (lastL Vs) t.changed, t.changed)])[i + 1]'(by simp; omega) = Vs[i + 1] := List.getElem_append_left e
      have e2 : (Vs ++ [(seenN t.sees (lastL Vs) t.changed, t.changed)])[i]'(by simp; omega) = Vs[i]'(by omega) := List.getElem_append_left (by omega)
      rw [e1] at hs ⊢
      rw [e2]
      exact hB.hist i e s hs
    · have e0 : i + 1 = Vs.length := by omega
      have e1 : (Vs ++ [(seenN t.sees (lastL Vs) t.changed, t.changed)])[i + 1]'(by simp; omega) = (seenN t.sees (lastL Vs) t.changed, t.changed) := by
        rw [List.getElem_append_right (by omega)]
        simp [e0]
      have e2 : (Vs ++ [(seenN t.sees (lastL Vs) t.changed, t.changed)])[i]'(by simp; omega) = Vs[i]'(by omega) := List.getElem_append_left (by omega)
      rw [e1] at hs ⊢
      rw [e2]
      dsimp only at hs ⊢
      rw [seenN_get t.changed s hl0, if_neg (by rw [hs]; decide)]
      unfold lastL
      rw [List.getLast?_eq_getElem?, show Vs.length - 1 = i by omega, List.getElem?_eq_getElem (by omega)]
      rfl
theorem inv_commit {X X' : Bx} {Vs : List Ver} {x : Tx} {t : RT} {n c : Int} (hB : BoxInv X Vs) (h : TxInv X.N x t) (hn : (x.ch.map Prod.fst).Nodup) (hC : CommitR X x X' n c) :
    n = (commitR Vs t).2.2.1 ∧ c = (commitR Vs t).2.2.2 ∧ BoxInv X' (commitR Vs t).1 ∧ TxInv X'.N { x with d := true } (commitR Vs t).2.1 ∧ X.N ≤ X'.N := by
  have hd := h.done
  have hcf := conf_eq hB h
  have hfin : TxInv X.N { x with d := true } { t with done := true } := { h with done := rfl }
  rcases hC with ⟨h1, rfl, rfl, rfl⟩ | ⟨h1, h2, rfl, rfl, rfl⟩ | ⟨h1, h2, h3, rfl, rfl, rfl⟩ | ⟨h1, h2, h3, rfl, rfl, q', L, hL, rfl⟩
  · have e : commitR Vs t = (Vs, t, 0, 7) := by unfold commitR; rw [← hd, h1]; rfl
    rw [e]
    refine ⟨rfl, rfl, hB, ?_, Int.le_refl _⟩
    have ht : ({ t with done := true } : RT) = t := by
      have : t.done = true := by rw [← hd, h1]
      rw [← this]
    rw [ht] at hfin; exact hfin
  · have e : commitR Vs t = (Vs, { t with done := true }, t.began, 0) := by unfold commitR; rw [← hd, h1, if_neg (by decide), if_pos (h.nil.1 h2)]
    rw [e]
    exact ⟨h.began, rfl, hB, hfin, Int.le_refl _⟩
  · have e : commitR Vs t = (Vs, { t with done := true }, 0, 11) := by unfold commitR; rw [← hd, h1, if_neg (by decide), if_neg (fun x => h2 (h.nil.2 x)), if_pos (by rw [← hcf]; exact h3)]
    rw [e]
    exact ⟨rfl, rfl, hB, hfin, Int.le_refl _⟩
  · have e : commitR Vs t = (Vs ++ [(seenN t.sees (lastL Vs) t.changed, t.changed)], { t with done := true }, (Vs.length : Int), 0) := by
      unfold commitR; rw [← hd, h1, if_neg (by decide), if_neg (fun x => h2 (h.nil.2 x)), if_neg (by rw [← hcf, h3]; decide)]; rfl
    rw [e]
    have hnum := hB.num
    refine ⟨?_, rfl, box_commit hB h hn hL, hfin.mono (by show X.N ≤ X.N + 1; omega), by show X.N ≤ X.N + 1; omega⟩
    show X.N + 1 = (Vs.length : Int)
    omega
end S
end Go.Proofs.Ytlfodhejpbjfcaa
namespace Go.Proofs.Ytlfodhejpbjfcaa
open Go.RowKit
namespace S
theorem new_eq : ∀ (L : List (ByteArray × Int)) (T : Tr ByteArray Int) (l : Nm), T.toList = l → Sorted sd.lt l → (newF L T).1 = (newR L l).1 ∧ (newF L T).2.toList = (newR L l).2 ∧ Sorted sd.lt (newR L l).2
  | [], T, l, h, hs => ⟨rfl, h, hs⟩
  | p :: ps, T, l, h, hs => by
    have hf := findF_getA (T := T) (by rw [h]; exact hs) p.1
    rw [h] at hf
    unfold newF newR
    by_cases hk : okName p.1
    · rw [if_pos hk, if_pos hk, findR_getA, ← hf]
      cases hF : findF sd.lt p.1 T with
      | nil =>
        have hT : (putF sd.lt p.1 p.2 T).toList = putR p.1 p.2 l := by rw [putF_toList strict_sd p.1 p.2 T (by rw [h]; exact hs), h, putR_eq hs]
        exact new_eq ps _ _ hT (by rw [putR_eq hs]; exact insL_sorted strict_sd hs)
      | node a b c d => exact ⟨rfl, h, hs⟩
    · rw [if_neg hk, if_neg hk]
      exact ⟨rfl, h, hs⟩
theorem newF_sz : ∀ (L : List (ByteArray × Int)) (T : Tr ByteArray Int), (newF L T).2.sz ≤ T.sz + L.length
  | [], T => by simp [newF]
  | p :: ps, T => by
    unfold newF
    split
    · split
      · have h1 := newF_sz ps (putF sd.lt p.1 p.2 T); have h2 := putF_sz sd.lt p.1 p.2 T
        simp only [List.length_cons]; omega
      · simp only [List.length_cons]; omega
    · simp only [List.length_cons]; omega
theorem newR_len : ∀ (L : List (ByteArray × Int)) (l : Nm), (newR L l).2.length ≤ l.length + L.length
  | [], l => by simp [newR]
  | p :: ps, l => by
    unfold newR
    split
    · split
      · have h1 := newR_len ps (putR p.1 p.2 l); have h2 := putR_len p.1 p.2 l
        simp only [List.length_cons]; omega
      · simp only [List.length_cons]; omega
    · simp only [List.length_cons]; omega
theorem newR_valid : ∀ (L : List (ByteArray × Int)) (l : Nm), Sorted sd.lt l → (∀ s, (getA s l).isSome = true → okName s) → ∀ s, (getA s (newR L l).2).isSome = true → okName s
  | [], l, _, h, s => h s
  | p :: ps, l, hs, h, s => by
    unfold newR
    by_cases hk : okName p.1
    · rw [if_pos hk]
      cases hF : findR p.1 l with
      | some q => exact h s
      | none =>
        refine newR_valid ps _ (by rw [putR_eq hs]; exact insL_sorted strict_sd hs) (fun t ht => ?_) s
        rw [putR_eq hs, getA_ins hs] at ht
        split at ht
        · rename_i e; subst e; exact hk
        · exact h t ht
    · rw [if_neg hk]
      exact h s
theorem inv_new (L : List (ByteArray × Int)) (b m : Nat) (q : Option Addr) : (newF L .nil).1 = (newR L []).1 ∧ BoxInv ⟨b, m, 0, q, (newF L .nil).2, []⟩ [((newR L []).2, [])] := by
  obtain ⟨h1, h2, h3⟩ := new_eq L .nil [] rfl (by simp [Sorted])
  refine ⟨h1, ⟨by simp, rfl, by rw [h2]; exact h3, h2, fun s => by simp [lastOf, getA], fun s n hn => ?_, fun s hs => ?_, fun i hi => by simp at hi⟩⟩
  · constructor
    · intro h; simp [lastOf, getA] at h; omega
    · rintro ⟨i, hi, h, -⟩
      simp at hi
      omega
  · dsimp only at hs
    rw [h2] at hs
    exact newR_valid L [] (by simp [Sorted]) (fun s h => by simp [getA] at h) s hs
end S
end Go.Proofs.Ytlfodhejpbjfcaa
