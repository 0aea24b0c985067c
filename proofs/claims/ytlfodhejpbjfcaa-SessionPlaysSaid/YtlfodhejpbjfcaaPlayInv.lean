/- How the box and its transactions stand to the reference. No walk. -/
import Derived.Test.YtlfodhejpbjfcaaTx
import Derived.Test.YtlfodhejpbjfcaaRefF
namespace Go.Proofs.Ytlfodhejpbjfcaa
open Go.RowKit
namespace S
/-- The last version's names. -/
def lastL (Vs : List Ver) : Nm := (Vs.getLast?.map Prod.fst).getD []
structure BoxInv (X : Bx) (Vs : List Ver) : Prop where
  pos : 0 < Vs.length
  num : X.N = (Vs.length : Int) - 1
  sorted : Sorted sd.lt X.T.toList
  list : X.T.toList = lastL Vs
  last0 : ∀ s, 0 ≤ lastOf X.last s
  last1 : ∀ s (n : Int), 0 ≤ n → (n < lastOf X.last s ↔ ∃ (i : Nat) (h : i < Vs.length), n < (i : Int) ∧ inR s Vs[i].2 = true)
structure TxInv (N : Int) (x : Tx) (t : RT) : Prop where
  began : x.n = t.began
  done : x.d = t.done
  lo : 0 ≤ x.n
  hi : x.n ≤ N
  sortedT : Sorted sd.lt x.T.toList
  sortedS : Sorted sd.lt t.sees
  sees : ∀ s, getA s t.sees = chgV (getA s x.ch) (getA s x.T.toList)
  changed : ∀ s, inR s t.changed = (getA s x.ch).isSome
  read : ∀ s, inR s t.read = (getA s x.rd).isSome
  nil : x.ch = [] ↔ t.changed = []
theorem TxInv.mono {N N' : Int} {x : Tx} {t : RT} (h : TxInv N x t) (hn : N ≤ N') : TxInv N' x t := { h with hi := Int.le_trans h.hi hn }
theorem inR_snoc' (s s' : ByteArray) (l : List ByteArray) : inR s' (l ++ [s]) = (inR s' l || decide (s = s')) := by
  unfold inR
  rw [List.any_append, List.any_cons, List.any_nil, Bool.or_false, beq_eq]
theorem getA_put_isSome {ν : Type} {s s' : ByteArray} {v : ν} {l : List (ByteArray × ν)} : (getA s' (putA s v l)).isSome = ((getA s' l).isSome || decide (s = s')) := by
  rw [getA_put]
  by_cases h : s = s'
  · rw [if_pos h, decide_eq_true h]; simp
  · rw [if_neg h, decide_eq_false h]; simp
theorem inv_begin {X : Bx} {Vs : List Ver} (h : BoxInv X Vs) (t r c : Nat) : TxInv X.N ⟨t, r, c, X.N, X.q, X.T, false, [], []⟩ (beginR Vs) where
  began := h.num
  done := rfl
  lo := by have h1 := h.num; have h2 := h.pos; show 0 ≤ X.N; omega
  hi := Int.le_refl _
  sortedT := h.sorted
  sortedS := by show Sorted sd.lt (lastL Vs); rw [← h.list]; exact h.sorted
  sees s := by
    show getA s (lastL Vs) = chgV none (getA s X.T.toList)
    rw [h.list]; rfl
  changed s := rfl
  read s := rfl
  nil := by simp [beginR]
/-- What a transaction sees. -/
theorem TxInv.find {N : Int} {x : Tx} {t : RT} (h : TxInv N x t) (s : ByteArray) : (match getA s x.ch with
    | some y => if y.2 then ((0 : Int), (5 : Int)) else (y.1, 0)
    | none => match findF sd.lt s x.T with
      | .nil => (0, 5)
      | .node _ _ v _ => (v, 0)) = (match findR s t.sees with | some p => (p.2, 0) | none => (0, 5)) := by
  rw [findR_getA, h.sees s]
  cases hg : getA s x.ch with
  | some y =>
    obtain ⟨v, d⟩ := y
    cases d <;> rfl
  | none =>
    have hf := findF_getA h.sortedT s
    simp only [chgV]
    rw [← hf]
    cases findF sd.lt s x.T <;> rfl
theorem inv_read {N : Int} {x : Tx} {t : RT} (h : TxInv N x t) (s : ByteArray) : TxInv N { x with rd := readN x.rd x.ch s } (readRT t s) := by
  have hc := h.changed s
  unfold readRT readN
  cases hg : getA s x.ch with
  | some y =>
    rw [hg] at hc
    rw [if_pos (by rw [hc]; rfl)]
    exact { h with }
  | none =>
    rw [hg] at hc
    rw [if_neg (by rw [hc]; simp)]
    exact { h with read := fun s' => by show inR s' (t.read ++ [s]) = _; rw [inR_snoc', getA_put_isSome, h.read s'] }
theorem inv_get {N : Int} {x : Tx} {t : RT} (h : TxInv N x t) (s : ByteArray) : getR x.d x.ch x.T s = ((getRT t s).2.1, (getRT t s).2.2) ∧ TxInv N { x with rd := readG x.d x.rd x.ch s } (getRT t s).1 := by
  obtain ⟨xt, xr, xc, xn, xq, xT, xd, xrd, xch⟩ := x
  dsimp only
  have hd := h.done
  dsimp only at hd
  cases xd with
  | true =>
    have e : getRT t s = (t, 0, 7) := by unfold getRT; rw [← hd]; rfl
    rw [e]
    refine ⟨rfl, ?_⟩
    have e2 : readG true xrd xch s = xrd := rfl
    rw [e2]
    exact h
  | false =>
    by_cases hk : okName s
    · have hck : chk false s = 0 := by simp [chk, hk]
      have hf := h.find s
      have e1 : getR false xch xT s = (match findR s t.sees with | some p => (p.2, 0) | none => (0, 5)) := by unfold getR; rw [if_pos hck]; exact hf
      have e2 : readG false xrd xch s = readN xrd xch s := by unfold readG; rw [if_pos hck]
      rw [e1, e2]
      unfold getRT
      rw [← hd, if_neg (by decide), if_pos hk]
      cases findR s t.sees with
      | some p => exact ⟨rfl, inv_read h s⟩
      | none => exact ⟨rfl, inv_read h s⟩
    · have hck : chk false s = 13 := by simp [chk, hk]
      have e1 : getR false xch xT s = (0, 13) := by unfold getR; rw [hck]; rfl
      have e2 : readG false xrd xch s = xrd := by unfold readG; rw [hck]; rfl
      have e : getRT t s = (t, 0, 13) := by unfold getRT; rw [← hd, if_neg (by decide), if_neg hk]
      rw [e1, e2, e]
      exact ⟨rfl, h⟩
theorem chgV_put {ch : List (ByteArray × (Int × Bool))} {s s' : ByteArray} {y : Int × Bool} {old : Option Int} : chgV (getA s' (putA s y ch)) old = if s = s' then chgV (some y) none else chgV (getA s' ch) old := by
  rw [getA_put]
  by_cases e : s = s'
  · rw [if_pos e, if_pos e]
    obtain ⟨v, d⟩ := y
    cases d <;> rfl
  · rw [if_neg e, if_neg e]
theorem putA_ne {ν : Type} {s : ByteArray} {v : ν} : ∀ {l : List (ByteArray × ν)}, putA s v l ≠ []
  | [] => by simp [putA]
  | p :: l => by rw [putA]; split <;> simp
/-- A change noted on both sides. -/
theorem inv_chg {N : Int} {x : Tx} {t : RT} (h : TxInv N x t) (s : ByteArray) (y : Int × Bool) (S : Nm) (hS : Sorted sd.lt S) (hg : ∀ s', getA s' S = if s = s' then chgV (some y) none else getA s' t.sees) :
    TxInv N { x with ch := putA s y x.ch } (finRT { t with sees := S } s) := by
  have hc := h.changed s
  have hsees : ∀ s', getA s' S = chgV (getA s' (putA s y x.ch)) (getA s' x.T.toList) := fun s' => by rw [hg s', chgV_put, h.sees s']
  unfold finRT
  by_cases hin : inR s t.changed = true
  · rw [if_pos hin]
    exact { h with
      sortedS := hS
      sees := hsees
      changed := fun s' => by
        show inR s' t.changed = _
        rw [getA_put_isSome, h.changed s']
        by_cases e : s = s'
        · subst e; rw [← hc, hin]; rfl
        · rw [decide_eq_false e, Bool.or_false]
      nil := by
        constructor
        · intro e; exact absurd e putA_ne
        · intro e
          have e' : t.changed = [] := e
          rw [e'] at hin; cases hin }
  · rw [if_neg hin]
    exact { h with
      sortedS := hS
      sees := hsees
      changed := fun s' => by
        show inR s' (t.changed ++ [s]) = _
        rw [inR_snoc', getA_put_isSome, h.changed s']
      nil := by
        constructor
        · intro e; exact absurd e putA_ne
        · intro e
          have e' : t.changed ++ [s] = [] := e
          simp at e' }
theorem inv_put {N : Int} {x : Tx} {t : RT} (h : TxInv N x t) (s : ByteArray) (z : Int) : chk x.d s = (chgRT t s z false).2 ∧ TxInv N { x with ch := putN x.d x.ch s z } (chgRT t s z false).1 := by
  obtain ⟨xt, xr, xc, xn, xq, xT, xd, xrd, xch⟩ := x
  dsimp only
  have hd := h.done
  dsimp only at hd
  cases xd with
  | true =>
    have e : chgRT t s z false = (t, 7) := by unfold chgRT; rw [← hd]; rfl
    rw [e]
    exact ⟨rfl, by have e2 : putN true xch s z = xch := rfl
                   rw [e2]; exact h⟩
  | false =>
    by_cases hk : okName s
    · have hck : chk false s = 0 := by simp [chk, hk]
      have e2 : putN false xch s z = putA s (z, false) xch := by unfold putN; rw [if_pos hck]
      have e : chgRT t s z false = (finRT { t with sees := putR s z t.sees } s, 0) := by unfold chgRT; rw [← hd, if_neg (by decide), if_pos hk]; rfl
      rw [hck, e2, e]
      refine ⟨rfl, inv_chg h s (z, false) _ ?_ ?_⟩
      · rw [putR_eq h.sortedS]; exact insL_sorted strict_sd h.sortedS
      · intro s'; rw [putR_eq h.sortedS, getA_ins h.sortedS]; rfl
    · have hck : chk false s = 13 := by simp [chk, hk]
      have e2 : putN false xch s z = xch := by unfold putN; rw [hck]; rfl
      have e : chgRT t s z false = (t, 13) := by unfold chgRT; rw [← hd, if_neg (by decide), if_neg hk]
      rw [hck, e2, e]
      exact ⟨rfl, h⟩
theorem inv_drop {N : Int} {x : Tx} {t : RT} (h : TxInv N x t) (s : ByteArray) (z : Int) : dropE x.d x.ch x.T s = (chgRT t s z true).2 ∧ TxInv N { x with rd := readG x.d x.rd x.ch s, ch := dropN x.d x.ch x.T s } (chgRT t s z true).1 := by
  obtain ⟨g1, g2⟩ := inv_get h s
  have hd := h.done
  have e0 : dropE x.d x.ch x.T s = (getRT t s).2.2 := by unfold dropE; rw [g1]
  have e1 : dropN x.d x.ch x.T s = if (getRT t s).2.2 = 0 then putA s (0, true) x.ch else x.ch := by unfold dropN; rw [g1]
  rw [e0, e1]
  by_cases hz : (getRT t s).2.2 = 0
  · rw [if_pos hz, hz]
    have hnd : t.done = false := by
      cases hdd : t.done with
      | false => rfl
      | true => have : getRT t s = (t, 0, 7) := by unfold getRT; rw [hdd]; rfl
                rw [this] at hz; cases hz
    have hk : okName s := by
      by_cases hk : okName s
      · exact hk
      · have : getRT t s = (t, 0, 13) := by unfold getRT; rw [hnd, if_neg (by decide), if_neg hk]
        rw [this] at hz; cases hz
    have e : chgRT t s z true = (finRT { (getRT t s).1 with sees := dropR s (getRT t s).1.sees } s, 0) := by unfold chgRT; rw [hnd, if_neg (by decide), if_pos hk, if_pos rfl, if_pos hz]
    rw [e]
    refine ⟨rfl, ?_⟩
    have := inv_chg g2 s (0, true) (dropR s (getRT t s).1.sees) (by rw [dropR_eq]; exact delL_sorted g2.sortedS) (fun s' => by rw [dropR_eq, getA_del]; rfl)
    exact this
  · rw [if_neg hz]
    have e : chgRT t s z true = ((getRT t s).1, (getRT t s).2.2) := by
      unfold chgRT
      cases hdd : t.done with
      | true => have e7 : getRT t s = (t, 0, 7) := by unfold getRT; rw [hdd]; rfl
                rw [e7]; rfl
      | false =>
        rw [if_neg (by decide)]
        by_cases hk : okName s
        · rw [if_pos hk, if_pos rfl, if_neg hz]
        · have e13 : getRT t s = (t, 0, 13) := by unfold getRT; rw [hdd, if_neg (by decide), if_neg hk]
          rw [if_neg hk, e13]
    rw [e]
    exact ⟨rfl, g2⟩
end S
end Go.Proofs.Ytlfodhejpbjfcaa
