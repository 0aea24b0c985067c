/- The plain law of the serial order: a transaction's log, replayed over any list that agrees with what it read and changed, makes its changes. No walk. -/
import Derived.Test.YtlfodhejpbjfcaaInv
set_option linter.unusedVariables false
set_option linter.unusedSimpArgs false
namespace Go.Proofs.Ytlfodhejpbjfcaa
open Go.RowKit
abbrev ActS := Nat × Nat × ByteArray × Int
namespace S
def w100 (v : Int) : Int := IntKind.i64.wrap (v * 100)
/-- What an act answers over a list, and the list behind it. -/
def repC (l : Nm) (a : ActS) : Int × Nm :=
  if okName a.2.2.1 then
    if a.1 % 6 = 1 then (match findR a.2.2.1 l with | some p => (w100 p.2, l) | none => (5, l))
    else if a.1 % 6 = 4 then (match findR a.2.2.1 l with | some _ => (0, dropR a.2.2.1 l) | none => (5, l))
    else (0, putR a.2.2.1 a.2.2.2 l)
  else (13, l)
def repN : Nm → List (ActS × Int) → Option Nm
  | l, [] => some l
  | l, a :: A => if (repC l a.1).1 = a.2 then repN (repC l a.1).2 A else none
theorem repN_snoc : ∀ (A : List (ActS × Int)) (l : Nm) (a : ActS × Int), repN l (A ++ [a]) = (repN l A).bind fun l' => if (repC l' a.1).1 = a.2 then some (repC l' a.1).2 else none
  | [], l, a => by simp [repN]
  | b :: A, l, a => by
    rw [List.cons_append, repN, repN]
    split
    · exact repN_snoc A _ a
    · rfl
/-- The log's replay. -/
def RepOk (x : Tx) (A : List (ActS × Int)) : Prop := ∀ l : Nm, Sorted sd.lt l → (∀ s, (getA s x.rd).isSome = true ∨ (getA s x.ch).isSome = true → getA s l = getA s x.T.toList) →
  ∃ l', repN l A = some l' ∧ Sorted sd.lt l' ∧ ∀ s, getA s l' = chgV (getA s x.ch) (getA s l)
theorem repOk_new (t r c : Nat) (n : Int) (q : Option Addr) (T : Tr ByteArray Int) : RepOk ⟨t, r, c, n, q, T, false, [], []⟩ [] := fun l hl _ => ⟨l, rfl, hl, fun _ => rfl⟩
/-- What the transaction sees is what the list has. -/
theorem getR_list {N : Int} {x : Tx} {t : RT} (h : TxInv N x t) (hd : x.d = false) {s : ByteArray} (hk : okName s) {l l' : Nm} (h1 : getA s x.ch = none → getA s l = getA s x.T.toList) (h2 : getA s l' = chgV (getA s x.ch) (getA s l)) :
    getR x.d x.ch x.T s = (match findR s l' with | some p => (p.2, 0) | none => (0, 5)) := by
  have e1 := (inv_get h s).1
  have hd' : t.done = false := by rw [← h.done, hd]
  rw [e1]
  have e2 : getA s l' = getA s t.sees := by
    rw [h2, h.sees s]
    cases hg : getA s x.ch with
    | none => rw [h1 hg]
    | some y => exact chgV_some y _ _
  rw [findR_getA, e2]
  unfold getRT
  rw [hd', if_neg (by decide), if_pos hk, findR_getA]
  cases getA s t.sees <;> rfl
theorem getR_bad {x : Tx} (hd : x.d = false) {s : ByteArray} (hk : ¬ okName s) : getR x.d x.ch x.T s = (0, 13) := by
  have hck : chk x.d s = 13 := by simp [chk, hk, hd]
  unfold getR
  rw [hck]; rfl
theorem readG_sub {x : Tx} {s s' : ByteArray} (h : (getA s' x.rd).isSome = true) : (getA s' (readG x.d x.rd x.ch s)).isSome = true := by
  unfold readG readN
  split
  · split
    · exact h
    · rw [getA_put_isSome, h]; rfl
  · exact h
theorem readG_at {x : Tx} (hd : x.d = false) {s : ByteArray} (hk : okName s) (hc : getA s x.ch = none) : (getA s (readG x.d x.rd x.ch s)).isSome = true := by
  have hck : chk x.d s = 0 := by simp [chk, hk, hd]
  unfold readG readN
  rw [if_pos hck, hc]
  rw [getA_put_isSome]; simp
/-- Get's answer as the log holds it. -/
def sawG (p : Int × Int) : Int := IntKind.i64.wrap (w100 p.1 + p.2)
theorem sawG_some (v : Int) : sawG (v, 0) = w100 v := by
  unfold sawG w100
  rw [Int.add_zero]
  simp only [IntKind.wrap_i64]
  omega
theorem rep_get {N : Int} {x : Tx} {t : RT} (h : TxInv N x t) (hd : x.d = false) {A : List (ActS × Int)} (hR : RepOk x A) {kd tx : Nat} (hkd : kd % 6 = 1) (s : ByteArray) (z : Int) :
    RepOk { x with rd := readG x.d x.rd x.ch s } (A ++ [((kd, tx, s, z), sawG (getR x.d x.ch x.T s))]) := by
  intro l hl hag
  dsimp only at hag ⊢
  obtain ⟨l', e1, e2, e3⟩ := hR l hl fun s' hs' => hag s' (hs'.imp readG_sub id)
  refine ⟨l', ?_, e2, e3⟩
  rw [repN_snoc, e1]
  dsimp only [Option.bind]
  unfold repC
  dsimp only
  by_cases hk : okName s
  · have hg := getR_list h hd hk (l := l) (l' := l') (fun hc => hag s (.inl (readG_at hd hk hc))) (e3 s)
    rw [if_pos hk, if_pos hkd, hg]
    cases findR s l' with
    | some p => dsimp only; rw [sawG_some, if_pos rfl]
    | none => dsimp only; rw [if_pos (by decide)]
  · rw [if_neg hk, getR_bad hd hk]
    dsimp only; rw [if_pos (by decide)]
theorem rep_put {x : Tx} (hd : x.d = false) {A : List (ActS × Int)} (hR : RepOk x A) {kd tx : Nat} (hkd : kd % 6 = 2 ∨ kd % 6 = 3) (s : ByteArray) (z : Int) :
    RepOk { x with ch := putN x.d x.ch s z } (A ++ [((kd, tx, s, z), chk x.d s)]) := by
  intro l hl hag
  dsimp only at hag ⊢
  by_cases hk : okName s
  · have hck : chk x.d s = 0 := by simp [chk, hk, hd]
    have e : putN x.d x.ch s z = putA s (z, false) x.ch := by unfold putN; rw [if_pos hck]
    rw [e] at hag ⊢
    obtain ⟨l', e1, e2, e3⟩ := hR l hl fun s' hs' => hag s' (hs'.imp id fun h => by rw [getA_put_isSome, h]; rfl)
    refine ⟨putR s z l', ?_, ?_, ?_⟩
    · rw [repN_snoc, e1, hck]
      dsimp only [Option.bind]
      unfold repC
      dsimp only
      rw [if_pos hk, if_neg (show ¬ kd % 6 = 1 by omega), if_neg (show ¬ kd % 6 = 4 by omega), if_pos rfl]
    · rw [putR_eq e2]; exact insL_sorted strict_sd e2
    · intro s'
      rw [putR_eq e2, getA_ins e2, chgV_put, e3 s']
      rfl
  · have hck : chk x.d s = 13 := by simp [chk, hk, hd]
    have e : putN x.d x.ch s z = x.ch := by unfold putN; rw [hck]; rfl
    rw [e] at hag ⊢
    obtain ⟨l', e1, e2, e3⟩ := hR l hl hag
    refine ⟨l', ?_, e2, e3⟩
    rw [repN_snoc, e1, hck]
    dsimp only [Option.bind]
    unfold repC
    dsimp only
    rw [if_neg hk, if_pos rfl]
theorem rep_drop {N : Int} {x : Tx} {t : RT} (h : TxInv N x t) (hd : x.d = false) {A : List (ActS × Int)} (hR : RepOk x A) {kd tx : Nat} (hkd : kd % 6 = 4) (s : ByteArray) (z : Int) :
    RepOk { x with rd := readG x.d x.rd x.ch s, ch := dropN x.d x.ch x.T s } (A ++ [((kd, tx, s, z), dropE x.d x.ch x.T s)]) := by
  intro l hl hag
  dsimp only at hag ⊢
  have hsub : ∀ s', (getA s' x.ch).isSome = true → (getA s' (dropN x.d x.ch x.T s)).isSome = true := fun s' hs' => by
    unfold dropN
    split
    · rw [getA_put_isSome, hs']; rfl
    · exact hs'
  obtain ⟨l', e1, e2, e3⟩ := hR l hl fun s' hs' => hag s' (hs'.imp readG_sub (hsub s'))
  by_cases hk : okName s
  · have hg := getR_list h hd hk (l := l) (l' := l') (fun hc => hag s (.inl (readG_at hd hk hc))) (e3 s)
    cases hf : findR s l' with
    | some p =>
      rw [hf] at hg
      have e4 : dropE x.d x.ch x.T s = 0 := by unfold dropE; rw [hg]
      have e5 : dropN x.d x.ch x.T s = putA s (0, true) x.ch := by unfold dropN; rw [hg]; rfl
      rw [e4, e5]
      refine ⟨dropR s l', ?_, ?_, ?_⟩
      · rw [repN_snoc, e1]
        dsimp only [Option.bind]
        unfold repC
        dsimp only
        rw [if_pos hk, if_neg (show ¬ kd % 6 = 1 by omega), if_pos hkd, hf]
        dsimp only; rw [if_pos rfl]
      · rw [dropR_eq]; exact delL_sorted e2
      · intro s'
        rw [dropR_eq, getA_del, chgV_put, e3 s']
        rfl
    | none =>
      rw [hf] at hg
      have e4 : dropE x.d x.ch x.T s = 5 := by unfold dropE; rw [hg]
      have e5 : dropN x.d x.ch x.T s = x.ch := by unfold dropN; rw [hg]; rfl
      rw [e4, e5]
      refine ⟨l', ?_, e2, e3⟩
      rw [repN_snoc, e1]
      dsimp only [Option.bind]
      unfold repC
      dsimp only
      rw [if_pos hk, if_neg (show ¬ kd % 6 = 1 by omega), if_pos hkd, hf]
      dsimp only; rw [if_pos rfl]
  · have hg := getR_bad hd hk
    have e4 : dropE x.d x.ch x.T s = 13 := by unfold dropE; rw [hg]
    have e5 : dropN x.d x.ch x.T s = x.ch := by unfold dropN; rw [hg]; rfl
    rw [e4, e5]
    refine ⟨l', ?_, e2, e3⟩
    rw [repN_snoc, e1]
    dsimp only [Option.bind]
    unfold repC
    dsimp only
    rw [if_neg hk, if_pos rfl]
/-- On which version a transaction began. -/
def HistT (Vs : List Ver) (x : Tx) : Prop := ∃ h : x.n.toNat < Vs.length, x.T.toList = (Vs[x.n.toNat]).1
theorem hist_back {X : Bx} {Vs : List Ver} (hB : BoxInv X Vs) {s : ByteArray} {k : Nat} (hk : k < Vs.length) (hn : ∀ (i : Nat) (h : i < Vs.length), k < i → inR s Vs[i].2 = false) : ∀ (j : Nat) (hj : j < Vs.length), k ≤ j → getA s Vs[j].1 = getA s Vs[k].1
  | 0, hj, h => by
    have e : k = 0 := by omega
    subst e; rfl
  | j + 1, hj, h => by
    by_cases e : k = j + 1
    · subst e; rfl
    · rw [hB.hist j hj s (hn (j + 1) hj (by omega))]
      exact hist_back hB hk hn j (by omega) (by omega)
/-- A commit that is not refused: what it read and changed has not turned since it began. -/
theorem hist_conf {X : Bx} {Vs : List Ver} (hB : BoxInv X Vs) {x : Tx} (hlo : 0 ≤ x.n) (hH : HistT Vs x) (hC : (conf X.last x.n x.rd || conf X.last x.n x.ch) = false) (s : ByteArray) (hs : (getA s x.rd).isSome = true ∨ (getA s x.ch).isSome = true) :
    getA s X.T.toList = getA s x.T.toList := by
  obtain ⟨hk, hT⟩ := hH
  rw [Bool.or_eq_false_iff] at hC
  have hl : ¬ x.n < lastOf X.last s := by
    intro hlt
    rcases hs with hs | hs
    · have := conf_iff.2 ⟨s, hs, hlt⟩; rw [hC.1] at this; cases this
    · have := conf_iff.2 ⟨s, hs, hlt⟩; rw [hC.2] at this; cases this
  have hn : ∀ (i : Nat) (h : i < Vs.length), x.n.toNat < i → inR s Vs[i].2 = false := fun i hi hlt => by
    cases hb : inR s Vs[i].2 with
    | false => rfl
    | true => exact absurd ((hB.last1 s x.n hlo).2 ⟨i, hi, by omega, hb⟩) hl
  have hp := hB.pos
  rw [hT, hB.list]
  have := hist_back hB hk hn (Vs.length - 1) (by omega) (by omega)
  rw [← this]
  unfold lastL
  rw [List.getLast?_eq_getElem?, List.getElem?_eq_getElem (by omega)]
  rfl
/-- The committed version is the log's replay. -/
theorem rep_commit {X : Bx} {Vs : List Ver} (hB : BoxInv X Vs) {x : Tx} (hlo : 0 ≤ x.n) (hH : HistT Vs x) (hC : (conf X.last x.n x.rd || conf X.last x.n x.ch) = false) {A : List (ActS × Int)} (hR : RepOk x A)
    (hn : (x.ch.map Prod.fst).Nodup) {L : List (ByteArray × (Int × Bool))} (hL : L.Perm x.ch) : repN X.T.toList A = some (appN X.T L).toList := by
  obtain ⟨l', e1, e2, e3⟩ := hR X.T.toList hB.sorted (hist_conf hB hlo hH hC)
  rw [e1]
  congr 1
  have hnL : (L.map Prod.fst).Nodup := (hL.map Prod.fst).nodup_iff.2 hn
  refine sorted_ext e2 (appN_sorted L hB.sorted) fun s => ?_
  rw [e3 s, appN_get L hB.sorted hnL s, getA_perm hL hnL s]
theorem histT_new {X : Bx} {Vs : List Ver} (hB : BoxInv X Vs) (t r c : Nat) : HistT Vs ⟨t, r, c, X.N, X.q, X.T, false, [], []⟩ := by
  have hp := hB.pos; have hn := hB.num
  have e : X.N.toNat = Vs.length - 1 := by omega
  refine ⟨by show X.N.toNat < _; omega, ?_⟩
  show X.T.toList = (Vs[X.N.toNat]'(by omega)).1
  rw [hB.list]
  unfold lastL
  rw [List.getLast?_eq_getElem?, List.getElem?_eq_getElem (by omega)]
  simp [e]
theorem histT_snoc {Vs : List Ver} {x : Tx} (h : HistT Vs x) (V : Ver) : HistT (Vs ++ [V]) x := by
  obtain ⟨h1, h2⟩ := h
  exact ⟨by simp; omega, by rw [List.getElem_append_left h1]; exact h2⟩
end S
end Go.Proofs.Ytlfodhejpbjfcaa
