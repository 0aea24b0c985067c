/- Pieces, and how a reader reads them. No walk.
What collecting pieces makes: a patch that leads as both. No walk.
The composition of two patches leads anchors as both do. No walk.
Pieces as they lie; a reader's block. No walk.
The reader's read. Printed by mkread.py. -/
import Derived.Test.YtplccefjljdjnaaInvP
import Derived.Test.YtplccefjljdjnaaOnT
set_option linter.unusedVariables false
set_option linter.unusedSimpArgs false
namespace Go.Proofs.Ytplccefjljdjnaa
open Go.RowKit
namespace M
structure Pcx where
  t : Nat
  f : Nat
  n : Nat
/-- A piece's letters. -/
def exP (x : Pcx) : List (Nat × Nat) := (List.range x.n).map fun k => (x.t, x.f + k)
def exA (l : List Pcx) : List (Nat × Nat) := l.flatMap exP
theorem exP_len (x : Pcx) : (exP x).length = x.n := by simp [exP]
theorem exA_cons (x : Pcx) (l : List Pcx) : exA (x :: l) = exP x ++ exA l := rfl
theorem exA_app (l l2 : List Pcx) : exA (l ++ l2) = exA l ++ exA l2 := by unfold exA; rw [List.flatMap_append]
theorem exP_part (x : Pcx) (u n : Nat) (h : u + n ≤ x.n) : exP ⟨x.t, x.f + u, n⟩ = ((exP x).drop u).take n := by
  apply List.ext_getElem
  · rw [exP_len, List.length_take, List.length_drop, exP_len]; dsimp only; omega
  · intro i h1 h2
    simp only [exP, List.getElem_map, List.getElem_range, List.getElem_take, List.getElem_drop]
    congr 1; omega
/-- What a reader reads up to an offset: the pieces, and its state behind. -/
structure Rd where
  em : List Pcx
  l : List Pcx
  u : Nat
  a : Nat
def rdN (x : Pcx) (u a T : Nat) : Nat := min (x.n - u) (T - a)
def rdE (x : Pcx) (u a T : Nat) : List Pcx := if 0 < rdN x u a T then [⟨x.t, x.f + u, rdN x u a T⟩] else []
def readF : List Pcx → Nat → Nat → Nat → Rd
  | [], u, a, _ => ⟨[], [], u, a⟩
  | x :: l, u, a, T => if a < T then (if u + rdN x u a T = x.n then (let r := readF l 0 (a + rdN x u a T) T; ⟨rdE x u a T ++ r.em, r.l, r.u, r.a⟩) else ⟨rdE x u a T, x :: l, u + rdN x u a T, a + rdN x u a T⟩) else ⟨[], x :: l, u, a⟩
/-- A reader's state fits. -/
def UOk : List Pcx → Nat → Prop
  | [], u => u = 0
  | x :: _, u => u ≤ x.n
theorem rdE_ex (x : Pcx) (u a T : Nat) (hu : u ≤ x.n) : exA (rdE x u a T) = ((exP x).drop u).take (T - a) := by
  have hm : ((exP x).drop u).take (T - a) = ((exP x).drop u).take (rdN x u a T) := by
    unfold rdN
    rcases Nat.le_total (x.n - u) (T - a) with h | h
    · rw [Nat.min_eq_left h, List.take_of_length_le (by rw [List.length_drop, exP_len]; exact h), List.take_of_length_le (by rw [List.length_drop, exP_len]; exact Nat.le_refl _)]
    · rw [Nat.min_eq_right h]
  rw [hm]
  unfold rdE
  have hle : rdN x u a T ≤ x.n - u := Nat.min_le_left _ _
  split
  · show exP ⟨x.t, x.f + u, rdN x u a T⟩ ++ [] = _
    rw [List.append_nil, exP_part x u _ (by omega)]
  · rw [show rdN x u a T = 0 by omega]; rfl
theorem rdE_len (x : Pcx) (u a T : Nat) : (rdE x u a T).length ≤ 1 ∧ ∀ y ∈ rdE x u a T, 0 < y.n := by
  unfold rdE
  split
  · exact ⟨by simp, fun y hy => by simp at hy; subst hy; assumption⟩
  · exact ⟨by simp, fun y hy => by simp at hy⟩
theorem readF_spec : ∀ (l : List Pcx) (u a T : Nat), UOk l u →
    exA (readF l u a T).em = ((exA l).drop u).take (T - a) ∧ (exA (readF l u a T).l).drop (readF l u a T).u = ((exA l).drop u).drop (T - a) ∧ (readF l u a T).a = a + min (T - a) ((exA l).length - u) ∧
    (∀ y ∈ (readF l u a T).em, 0 < y.n) ∧ (readF l u a T).em.length + (readF l u a T).l.length ≤ l.length + 1 ∧ UOk (readF l u a T).l (readF l u a T).u
  | [], u, a, T, h => by
    have h0 : u = 0 := h
    subst h0
    simp [readF, exA, UOk]
  | x :: l, u, a, T, h => by
    have hu : u ≤ x.n := h
    have hle : rdN x u a T ≤ x.n - u := Nat.min_le_left _ _
    have hle2 : rdN x u a T ≤ T - a := Nat.min_le_right _ _
    have he := rdE_ex x u a T hu
    obtain ⟨l1, l2⟩ := rdE_len x u a T
    have hdrop : (exA (x :: l)).drop u = (exP x).drop u ++ exA l := by rw [exA_cons, List.drop_append_of_le_length (by rw [exP_len]; exact hu)]
    have hlen : (exA (x :: l)).length = x.n + (exA l).length := by rw [exA_cons, List.length_append, exP_len]
    have hdl : ((exP x).drop u).length = x.n - u := by rw [List.length_drop, exP_len]
    unfold readF
    by_cases ha : a < T
    · rw [if_pos ha]
      by_cases hf : u + rdN x u a T = x.n
      · rw [if_pos hf]
        dsimp only
        have hn : rdN x u a T = x.n - u := by omega
        obtain ⟨i1, i2, i3, i4, i5, i6⟩ := readF_spec l 0 (a + rdN x u a T) T (by cases l <;> simp [UOk])
        have hT : T - (a + rdN x u a T) = T - a - (x.n - u) := by omega
        rw [hT] at i1 i2 i3
        rw [List.drop_zero] at i1 i2
        refine ⟨?_, ?_, ?_, ?_, ?_, i6⟩
        · rw [exA_app, he, i1, hdrop, List.take_append, hdl]
        · have hz : ((exP x).drop u).drop (T - a) = [] := List.drop_of_length_le (by rw [hdl]; omega)
          rw [i2, hdrop, List.drop_append, hz, List.nil_append, hdl]
        · rw [i3, hlen]; omega
        · intro y hy
          rcases List.mem_append.1 hy with hy | hy
          · exact l2 y hy
          · exact i4 y hy
        · rw [List.length_append, List.length_cons]; omega
      · rw [if_neg hf]
        dsimp only
        have hn : rdN x u a T = T - a := by unfold rdN at hf hle ⊢; omega
        refine ⟨?_, ?_, ?_, l2, by rw [List.length_cons]; omega, show u + rdN x u a T ≤ x.n by omega⟩
        · rw [he, hdrop, List.take_append_of_le_length (by rw [hdl]; omega)]
        · rw [hn, List.drop_drop, Nat.add_comm]
        · rw [hlen]; omega
    · rw [if_neg ha]
      dsimp only
      have hT : T - a = 0 := by omega
      rw [hT]
      refine ⟨rfl, rfl, by omega, fun y hy => by simp at hy, by simp, hu⟩
/-- A list that changes have been made in, from an offset on. -/
def patG {α : Type} (ins : Chg → List α) (t : List α) : Nat → List Chg → List α
  | f, [] => t.drop f
  | f, c :: L => (t.drop f).take (c.pos.toNat - f) ++ (ins c ++ patG ins t (c.pos + c.n).toNat L)
/-- A kept letter stands where the map says. -/
theorem patG_map {α : Type} {ins : Chg → List α} {E : List En} {t : List α} {y : Int} : ∀ (L : List Chg) (last s : Int) (f : Nat), (∀ c ∈ L, (ins c).length = (txt E c.id).length) → formF t.length last L = true → (f : Int) ≤ last + 1 → (f : Int) ≤ y → y < t.length → (mapF E y s L).2.2 = true →
    (f : Int) + s ≤ (mapF E y s L).1 ∧ (patG ins t f L)[((mapF E y s L).1 - (f + s)).toNat]? = t[y.toNat]?
  | [], last, s, f, _, _, _, hfy, hyt, _ => by
    show (f : Int) + s ≤ y + s ∧ (t.drop f)[(y + s - (f + s)).toNat]? = t[y.toNat]?
    refine ⟨by omega, ?_⟩
    rw [List.getElem?_drop]
    congr 1; omega
  | c :: L, last, s, f, hi, h, hf, hfy, hyt, hk => by
    obtain ⟨g1, g2, g3, g4, g5, g6⟩ := chg_form h
    have hic := hi c (by simp)
    rw [mapF_cons] at hk ⊢
    show _ ∧ ((t.drop f).take (c.pos.toNat - f) ++ (ins c ++ patG ins t (c.pos + c.n).toNat L))[_]? = _
    by_cases h1 : c.pos > y
    · rw [if_pos h1]
      dsimp only
      refine ⟨by omega, ?_⟩
      rw [List.getElem?_append_left (by rw [List.length_take, List.length_drop]; omega), List.getElem?_take_of_lt (by omega), List.getElem?_drop]
      congr 1; omega
    · rw [if_neg h1] at hk ⊢
      by_cases h2 : y < c.pos + c.n
      · rw [if_pos h2] at hk; cases hk
      · rw [if_neg h2] at hk ⊢
        obtain ⟨i1, i2⟩ := patG_map (ins := ins) (E := E) (t := t) (y := y) L (c.pos + c.n) (s + ((txt E c.id).length - c.n)) (c.pos + c.n).toNat (fun d hd => hi d (by simp [hd])) g5 (by omega) (by omega) hyt hk
        have hlo : ((c.pos + c.n).toNat : Int) = c.pos + c.n := by omega
        rw [hlo] at i1 i2
        refine ⟨by omega, ?_⟩
        rw [List.getElem?_append_right (by rw [List.length_take, List.length_drop]; omega), List.length_take, List.length_drop, List.getElem?_append_right (by omega), ← i2]
        congr 1; omega
/-- Its length. -/
theorem patG_len {α : Type} {ins : Chg → List α} {E : List En} {t : List α} : ∀ (L : List Chg) (last : Int) (f : Nat), (∀ c ∈ L, (ins c).length = (txt E c.id).length) → formF t.length last L = true → (f : Int) ≤ last + 1 → f ≤ t.length → ((patG ins t f L).length : Int) = t.length - f - delF L + insF E L
  | [], last, f, _, _, _, h => by
    show ((t.drop f).length : Int) = _
    rw [List.length_drop]
    simp only [delF, insF]; omega
  | c :: L, last, f, hi, h, hf, hft => by
    obtain ⟨g1, g2, g3, g4, g5, g6⟩ := chg_form h
    have hic := hi c (by simp)
    have ih := patG_len (ins := ins) (E := E) (t := t) L (c.pos + c.n) (c.pos + c.n).toNat (fun d hd => hi d (by simp [hd])) g5 (by omega) (by omega)
    show (((t.drop f).take (c.pos.toNat - f) ++ (ins c ++ patG ins t (c.pos + c.n).toNat L)).length : Int) = _
    rw [List.length_append, List.length_append, List.length_take, List.length_drop]
    have e1 : delF (c :: L) = c.n + delF L := rfl
    have e2 : insF E (c :: L) = (txt E c.id).length + insF E L := rfl
    rw [e1, e2]
    omega
end M
end Go.Proofs.Ytplccefjljdjnaa
namespace Go.Proofs.Ytplccefjljdjnaa
open Go.RowKit
namespace M
/-- Kept pieces stand in order, all beyond an offset; none is empty, and none is beyond the end. -/
def InOrd (len : Nat) : Nat → List Pcx → Prop
  | _, [] => True
  | at0, x :: l => 0 < x.n ∧ if x.t = 0 then at0 ≤ x.f ∧ x.f + x.n ≤ len ∧ InOrd len (x.f + x.n) l else InOrd len at0 l
/-- A change of the composition: from at0 to f, with k letters. -/
def ColC (E : List En) (at0 f k : Nat) (c : Chg) : Prop := c.pos = at0 ∧ c.n = ((f - at0 : Nat) : Int) ∧ (txt E c.id).length = k ∧ c.id ≤ E.length ∧ (entAt E c.id).even = true ∧ (c.id = 0 → k = 0)
/-- The changes that pieces make. -/
def Col (E : List En) (len : Nat) : Nat → Nat → List Pcx → List Chg → Prop
  | at0, k, [], M => if at0 < len ∨ 0 < k then ∃ c, M = [c] ∧ ColC E at0 len k c else M = []
  | at0, k, x :: l, M => if x.t = 0 then (if at0 < x.f ∨ 0 < k then ∃ c M2, M = c :: M2 ∧ ColC E at0 x.f k c ∧ Col E len (x.f + x.n) 0 l M2 else Col E len (x.f + x.n) 0 l M) else Col E len at0 (k + x.n) l M
theorem Col.txs {E : List En} {len : Nat} : ∀ {l : List Pcx} {at0 k : Nat} {M : List Chg}, Col E len at0 k l M → Txs E M
  | [], at0, k, M, h => by
    unfold Col at h
    split at h
    · obtain ⟨c, rfl, hc⟩ := h
      intro d hd; simp at hd; subst hd; exact ⟨hc.2.2.2.1, hc.2.2.2.2.1⟩
    · subst h; intro d hd; simp at hd
  | x :: l, at0, k, M, h => by
    unfold Col at h
    split at h
    · split at h
      · obtain ⟨c, M2, rfl, hc, h2⟩ := h
        intro d hd
        rcases List.mem_cons.1 hd with rfl | hd
        · exact ⟨hc.2.2.2.1, hc.2.2.2.2.1⟩
        · exact h2.txs d hd
      · exact h.txs
    · exact h.txs
/-- The patch fits; its result has as many letters as the pieces. -/
theorem Col.form {E : List En} {len : Nat} (hl : (len : Int) ≤ maxL) : ∀ {l : List Pcx} {at0 k : Nat} {M : List Chg} {last : Int}, Col E len at0 k l M → InOrd len at0 l → at0 ≤ len → last < at0 → -1 ≤ last →
    formF len last M = true ∧ (insF E M : Int) - delF M + (len - at0) = k + (exA l).length
  | [], at0, k, M, last, h, _, ha, hla, hl1 => by
    unfold Col at h
    split at h
    · rename_i hc0
      obtain ⟨c, rfl, hp, hn, hk, hi, he, hz⟩ := h
      refine ⟨?_, ?_⟩
      · show (chgOk len last c && true) = true
        rw [Bool.and_true]
        unfold chgOk
        simp only [Bool.and_eq_true, Bool.not_eq_true', decide_eq_false_iff_not, Bool.and_eq_false_iff]
        refine ⟨⟨rngB_iff.2 ⟨by omega, hl, by omega, by omega, by omega, by omega⟩, by omega⟩, ?_⟩
        rcases Nat.eq_zero_or_pos k with g | g
        · left; omega
        · right; intro h0; have := hz h0; omega
      · show (((txt E c.id).length + 0 : Nat) : Int) - (c.n + 0) + (len - at0) = k + 0
        rw [hk, hn]; omega
    · subst h
      refine ⟨rfl, ?_⟩
      show ((0 : Nat) : Int) - 0 + (len - at0) = k + 0
      omega
  | x :: l, at0, k, M, last, h, ho, ha, hla, hl1 => by
    obtain ⟨hx0, ho⟩ := ho
    have hex : (exA (x :: l)).length = x.n + (exA l).length := by rw [exA_cons, List.length_append, exP_len]
    unfold Col at h
    split at h
    · rename_i ht
      rw [if_pos ht] at ho
      obtain ⟨o1, o2, o3⟩ := ho
      split at h
      · rename_i hc0
        obtain ⟨c, M2, rfl, ⟨hp, hn, hk, hi, he, hz⟩, h2⟩ := h
        obtain ⟨i1, i2⟩ := h2.form (last := c.pos + c.n) hl o3 (by omega) (by omega) (by omega)
        refine ⟨?_, ?_⟩
        · show (chgOk len last c && formF len (c.pos + c.n) M2) = true
          rw [i1, Bool.and_true]
          unfold chgOk
          simp only [Bool.and_eq_true, Bool.not_eq_true', decide_eq_false_iff_not, Bool.and_eq_false_iff]
          refine ⟨⟨rngB_iff.2 ⟨by omega, hl, by omega, by omega, by omega, by omega⟩, by omega⟩, ?_⟩
          rcases Nat.eq_zero_or_pos k with g | g
          · left; omega
          · right; intro h0; have := hz h0; omega
        · show (((txt E c.id).length + insF E M2 : Nat) : Int) - (c.n + delF M2) + (len - at0) = _
          rw [hk, hn, hex]; omega
      · rename_i hc0
        obtain ⟨i1, i2⟩ := h.form (last := last) hl o3 (by omega) (by omega) hl1
        exact ⟨i1, by rw [hex]; omega⟩
    · rename_i ht
      rw [if_neg ht] at ho
      obtain ⟨i1, i2⟩ := h.form hl ho ha hla hl1
      exact ⟨i1, by rw [hex]; omega⟩
/-- No change ahead of an offset. -/
theorem Col.ahead {E : List En} {len : Nat} {y s : Int} : ∀ {l : List Pcx} {at0 k : Nat} {M : List Chg}, Col E len at0 k l M → InOrd len at0 l → y < at0 → mapF E y s M = (y + s, y + s, true)
  | [], at0, k, M, h, _, hy => by
    unfold Col at h
    split at h
    · obtain ⟨c, rfl, hp, -⟩ := h
      rw [mapF_cons, if_pos (by omega)]
    · subst h; rfl
  | x :: l, at0, k, M, h, ho, hy => by
    obtain ⟨hx0, ho⟩ := ho
    unfold Col at h
    split at h
    · rename_i ht
      rw [if_pos ht] at ho
      split at h
      · obtain ⟨c, M2, rfl, ⟨hp, -⟩, -⟩ := h
        rw [mapF_cons, if_pos (by omega)]
      · exact h.ahead ho.2.2 (by omega)
    · rename_i ht
      rw [if_neg ht] at ho
      exact h.ahead ho hy
/-- A kept letter stands where the pieces have it. -/
theorem Col.map {E : List En} {len : Nat} {y : Nat} : ∀ {l : List Pcx} {at0 k w : Nat} {M : List Chg} {s : Int}, Col E len at0 k l M → InOrd len at0 l → (exA l)[w]? = some (0, y) → at0 ≤ y ∧ mapF E y s M = (at0 + s + k + w, at0 + s + k + w, true)
  | [], at0, k, w, M, s, _, _, hw => by simp [exA] at hw
  | x :: l, at0, k, w, M, s, h, ho, hw => by
    obtain ⟨hx0, ho⟩ := ho
    rw [exA_cons] at hw
    unfold Col at h
    by_cases hwn : w < x.n
    · rw [List.getElem?_append_left (by rw [exP_len]; exact hwn)] at hw
      have hxy : x.t = 0 ∧ x.f + w = y := by
        unfold exP at hw
        rw [List.getElem?_map, List.getElem?_range hwn] at hw
        simpa using hw
      rw [if_pos hxy.1] at h ho
      obtain ⟨o1, o2, o3⟩ := ho
      refine ⟨by omega, ?_⟩
      split at h
      · obtain ⟨c, M2, rfl, ⟨hp, hn, hk, -⟩, h2⟩ := h
        rw [mapF_cons, if_neg (by omega), if_neg (by omega), h2.ahead o3 (by omega), hk, hn]
        simp only [Prod.mk.injEq, and_true]
        omega
      · rw [h.ahead o3 (by omega)]
        simp only [Prod.mk.injEq, and_true]
        omega
    · rw [List.getElem?_append_right (by rw [exP_len]; omega), exP_len] at hw
      split at h
      · rename_i ht
        rw [if_pos ht] at ho
        obtain ⟨o1, o2, o3⟩ := ho
        split at h
        · obtain ⟨c, M2, rfl, ⟨hp, hn, hk, -⟩, h2⟩ := h
          obtain ⟨i1, i2⟩ := h2.map (s := s + ((txt E c.id).length - c.n)) o3 hw
          refine ⟨by omega, ?_⟩
          rw [mapF_cons, if_neg (by omega), if_neg (by omega), i2, hk, hn]
          simp only [Prod.mk.injEq, and_true]
          omega
        · obtain ⟨i1, i2⟩ := h.map (s := s) o3 hw
          refine ⟨by omega, ?_⟩
          rw [i2]
          simp only [Prod.mk.injEq, and_true]
          omega
      · rename_i ht
        rw [if_neg ht] at ho
        obtain ⟨i1, i2⟩ := h.map (s := s) ho hw
        refine ⟨i1, ?_⟩
        rw [i2]
        simp only [Prod.mk.injEq, and_true]
        omega
end M
end Go.Proofs.Ytplccefjljdjnaa
namespace Go.Proofs.Ytplccefjljdjnaa
open Go.RowKit
namespace M
/-- The kept letters. -/
def kp (l : List (Nat × Nat)) : List Nat := l.filterMap fun p => if p.1 = 0 then some p.2 else none
theorem kp_app (a b : List (Nat × Nat)) : kp (a ++ b) = kp a ++ kp b := by unfold kp; rw [List.filterMap_append]
theorem kp_exP (x : Pcx) (h : x.t = 0) : kp (exP x) = (List.range x.n).map fun k => x.f + k := by
  unfold kp exP
  rw [List.filterMap_map]
  have : ((fun p : Nat × Nat => if p.1 = 0 then some p.2 else none) ∘ fun k => (x.t, x.f + k)) = fun k => some (x.f + k) := by funext k; simp [h]
  rw [this, ← List.filterMap_eq_map]; rfl
theorem kp_exP0 (x : Pcx) (h : x.t ≠ 0) : kp (exP x) = [] := by
  unfold kp exP
  rw [List.filterMap_map, List.filterMap_eq_nil_iff]
  intro a _
  simp [h]
/-- What a change puts in. -/
def insX (E : List En) (c : Chg) : List (Nat × Nat) := exP ⟨c.id, 0, (txt E c.id).length⟩
theorem insX_len (E : List En) (c : Chg) : (insX E c).length = (txt E c.id).length := exP_len _
theorem insX_kp (E : List En) (c : Chg) : kp (insX E c) = [] := by
  by_cases h : c.id = 0
  · unfold insX exP
    rw [h, txt_zero]; rfl
  · exact kp_exP0 _ h
theorem kp_patG {E : List En} {t : List (Nat × Nat)} {len : Int} : ∀ (L : List Chg) (last : Int) (f : Nat), formF len last L = true → (f : Int) ≤ last + 1 → (kp (patG (insX E) t f L)).Sublist (kp (t.drop f))
  | [], _, f, _, _ => List.Sublist.refl _
  | c :: L, last, f, h, hf => by
    obtain ⟨g1, g2, g3, g4, g5, g6⟩ := chg_form h
    show (kp ((t.drop f).take (c.pos.toNat - f) ++ (insX E c ++ patG (insX E) t (c.pos + c.n).toNat L))).Sublist _
    rw [kp_app, kp_app, insX_kp, List.nil_append]
    have ih := kp_patG (E := E) (t := t) L (c.pos + c.n) (c.pos + c.n).toNat g5 (by omega)
    have hd : t.drop (c.pos + c.n).toNat = ((t.drop f).drop (c.pos.toNat - f)).drop c.n.toNat := by
      rw [List.drop_drop, List.drop_drop]; congr 1; omega
    have hs : (kp (t.drop (c.pos + c.n).toNat)).Sublist (kp ((t.drop f).drop (c.pos.toNat - f))) := by
      rw [hd]
      exact (List.drop_sublist _ _).filterMap _
    have e : kp (t.drop f) = kp ((t.drop f).take (c.pos.toNat - f)) ++ kp ((t.drop f).drop (c.pos.toNat - f)) := by
      rw [← kp_app, List.take_append_drop]
    rw [e]
    exact (List.Sublist.refl _).append (ih.trans hs)
theorem inOrd_of {len : Nat} : ∀ (l : List Pcx) (at0 : Nat), (∀ y ∈ l, 0 < y.n) → (kp (exA l)).Pairwise (· < ·) → (∀ a ∈ kp (exA l), at0 ≤ a ∧ a < len) → InOrd len at0 l
  | [], _, _, _, _ => trivial
  | x :: l, at0, hn, hp, ha => by
    have hx0 := hn x (by simp)
    rw [exA_cons, kp_app] at hp ha
    refine ⟨hx0, ?_⟩
    by_cases ht : x.t = 0
    · rw [if_pos ht]
      rw [kp_exP x ht] at hp ha
      obtain ⟨p1, p2, p3⟩ := List.pairwise_append.1 hp
      have m0 : x.f ∈ (List.range x.n).map (fun k => x.f + k) := List.mem_map.2 ⟨0, List.mem_range.2 hx0, by simp⟩
      have m1 : x.f + (x.n - 1) ∈ (List.range x.n).map (fun k => x.f + k) := List.mem_map.2 ⟨x.n - 1, List.mem_range.2 (by omega), rfl⟩
      have h0 := ha _ (List.mem_append_left _ m0)
      have h1 := ha _ (List.mem_append_left _ m1)
      refine ⟨h0.1, by omega, inOrd_of l _ (fun y hy => hn y (by simp [hy])) p2 (fun a haa => ?_)⟩
      have := p3 _ m1 a haa
      exact ⟨by omega, (ha a (List.mem_append_right _ haa)).2⟩
    · rw [if_neg ht]
      rw [kp_exP0 x ht, List.nil_append] at hp ha
      exact inOrd_of l at0 (fun y hy => hn y (by simp [hy])) hp ha
/-- The text's own letters. -/
def origX (len : Nat) : List (Nat × Nat) := exP ⟨0, 0, len⟩
theorem origX_len (len : Nat) : (origX len).length = len := exP_len _
theorem origX_at {len y : Nat} (h : y < len) : (origX len)[y]? = some (0, y) := by
  unfold origX exP
  rw [List.getElem?_map, List.getElem?_range h]; simp
theorem origX_kp (len : Nat) : kp (origX len) = List.range len := by
  unfold origX
  rw [kp_exP _ rfl]
  simp
/-- Both patches' letters. -/
def bothX (E : List En) (len : Nat) (p q : List Chg) : List (Nat × Nat) := patG (insX E) (patG (insX E) (origX len) 0 p) 0 q
theorem both_ord {E : List En} {len : Nat} {n : Int} {p q : List Chg} {l : List Pcx} (hp : formF len (-1) p = true) (hq : formF n (-1) q = true) (hl : exA l = bothX E len p q) (hn : ∀ y ∈ l, 0 < y.n) : InOrd len 0 l := by
  have h1 := kp_patG (E := E) (t := origX len) p (-1) 0 hp (by omega)
  have h2 := kp_patG (E := E) (t := patG (insX E) (origX len) 0 p) q (-1) 0 hq (by omega)
  rw [List.drop_zero] at h1 h2
  have h3 : (kp (exA l)).Sublist (List.range len) := by rw [hl, ← origX_kp]; exact h2.trans h1
  exact inOrd_of l 0 hn (List.pairwise_lt_range.sublist h3) (fun a ha => ⟨Nat.zero_le _, List.mem_range.1 (h3.subset ha)⟩)
/-- What the law asks. -/
theorem com_plain {E : List En} {len : Nat} {p q M : List Chg} {l : List Pcx} {n nl : Int} (hp : lngF E len p = (n, 0)) (hq : lngF E n q = (nl, 0)) (hl : exA l = bothX E len p q) (hn : ∀ y ∈ l, 0 < y.n) (hC : Col E len 0 0 l M) :
    lngF E len M = (nl, 0) ∧ ∀ (x : Int) (r : Bool) (a b : Int), 0 ≤ x ∧ x ≤ len → ancF (mvsF E 0 p) n len x r = (a, true) → ancF (mvsF E 0 q) nl n a r = (b, true) → ancF (mvsF E 0 M) nl len x r = (b, true) := by
  have hp0 : (lngF E len p).2 = 0 := by rw [hp]
  have hq0 : (lngF E n q).2 = 0 := by rw [hq]
  obtain ⟨o1, o2, o3, o4, o5⟩ := lngF_ok hp0
  obtain ⟨u1, u2, u3, u4, u5⟩ := lngF_ok hq0
  rw [hp] at o5
  rw [hq] at u5
  dsimp only at o5 u5
  have hord := both_ord o3 u3 hl hn
  obtain ⟨f1, f2⟩ := hC.form (last := -1) (by unfold maxL; omega) hord (Nat.zero_le _) (by omega) (by omega)
  have hlp := patG_len (ins := insX E) (E := E) (t := origX len) p (-1) 0 (fun c _ => insX_len E c) (by rw [origX_len]; exact o3) (by omega) (Nat.zero_le _)
  rw [origX_len] at hlp
  have hnp : ((patG (insX E) (origX len) 0 p).length : Int) = n := by omega
  have hlq := patG_len (ins := insX E) (E := E) (t := patG (insX E) (origX len) 0 p) q (-1) 0 (fun c _ => insX_len E c) (by rw [hnp]; exact u3) (by omega) (Nat.zero_le _)
  have hex : ((exA l).length : Int) = nl := by rw [hl]; unfold bothX; omega
  have hm : lngF E len M = (nl, 0) := by
    unfold lngF chkF
    rw [if_neg (show ¬ ¬ ((0 : Int) ≤ (len : Int) ∧ (len : Int) ≤ maxL) by unfold maxL; omega), f1]
    simp only [if_true, ne_eq, not_true_eq_false, if_false]
    rw [if_pos (by unfold maxL; omega)]
    congr 1; omega
  refine ⟨hm, ?_⟩
  -- a kept letter
  have key : ∀ (y : Nat), y < len → (mapF E y 0 p).2.2 = true → (mapF E (mapF E y 0 p).1 0 q).2.2 = true → mapF E y 0 M = ((mapF E (mapF E y 0 p).1 0 q).1, (mapF E (mapF E y 0 p).1 0 q).1, true) := by
    intro y hy k1 k2
    obtain ⟨i1, i2⟩ := patG_map (ins := insX E) (E := E) (t := origX len) (y := y) p (-1) 0 0 (fun c _ => insX_len E c) (by rw [origX_len]; exact o3) (by omega) (by omega) (by rw [origX_len]; omega) k1
    obtain ⟨c1, c2, c3⟩ := mapF_hi (E := E) (y := y) (len := len) (by omega) p (-1) 0 o3
    unfold plL at c2
    rw [if_pos k1] at c2
    have hms := moreF_eq E p 0
    obtain ⟨z, hz⟩ : ∃ z : Nat, (mapF E y 0 p).1 = (z : Int) := ⟨(mapF E y 0 p).1.toNat, by omega⟩
    rw [hz] at i1 i2 c2 k2 ⊢
    obtain ⟨j1, j2⟩ := patG_map (ins := insX E) (E := E) (t := patG (insX E) (origX len) 0 p) (y := z) q (-1) 0 0 (fun c _ => insX_len E c) (by rw [hnp]; exact u3) (by omega) (by omega) (by rw [hnp]; omega) k2
    obtain ⟨w, hw⟩ : ∃ w : Nat, (mapF E z 0 q).1 = (w : Int) := ⟨(mapF E z 0 q).1.toNat, by omega⟩
    rw [hw] at j1 j2 ⊢
    have e1 : ((z : Int) - ((0 : Nat) + 0 : Int)).toNat = z := by omega
    have e2 : ((w : Int) - ((0 : Nat) + 0 : Int)).toNat = w := by omega
    rw [e1, Int.toNat_natCast, origX_at hy] at i2
    rw [e2, Int.toNat_natCast, i2] at j2
    have hg := (hC.map (y := y) (w := w) (s := 0) hord (by rw [hl]; exact j2)).2
    rw [hg]
    simp only [Prod.mk.injEq, and_true]
    omega
  intro x r a b hx ha hb
  cases r with
  | true =>
    rw [anc_R o3] at ha
    rw [anc_R f1]
    by_cases hxl : x = len
    · rw [if_pos hxl] at ha ⊢
      simp only [Prod.mk.injEq] at ha
      rw [anc_R u3, if_pos ha.1.symm] at hb
      exact hb
    · rw [if_neg hxl] at ha ⊢
      simp only [Prod.mk.injEq] at ha
      obtain ⟨y, rfl⟩ : ∃ y : Nat, x = (y : Int) := ⟨x.toNat, by omega⟩
      obtain ⟨c1, c2, c3⟩ := mapF_hi (E := E) (y := y) (len := len) (by omega) p (-1) 0 o3
      have h3 := c3 ha.2
      unfold plL at c2
      rw [if_pos ha.2] at c2
      have hms := moreF_eq E p 0
      rw [anc_R u3, if_neg (by omega)] at hb
      simp only [Prod.mk.injEq] at hb
      rw [← ha.1, ← h3] at hb
      have k := key y (by omega) ha.2 hb.2
      have hlo := (mapF_lo (E := E) (y := y) p (-1) 0 0 o3 (by omega) (by omega)).1
      obtain ⟨d1, d2, d3⟩ := mapF_hi (E := E) (y := (mapF E y 0 p).1) (len := n) (by omega) q (-1) 0 u3
      rw [k]
      dsimp only
      rw [d3 hb.2, hb.1]
  | false =>
    rw [anc_L o3] at ha
    rw [anc_L f1]
    by_cases hx0 : x = 0
    · rw [if_pos hx0] at ha ⊢
      simp only [Prod.mk.injEq] at ha
      rw [anc_L u3, if_pos ha.1.symm] at hb
      exact hb
    · rw [if_neg hx0] at ha ⊢
      simp only [Prod.mk.injEq] at ha
      obtain ⟨y, hy⟩ : ∃ y : Nat, x - 1 = (y : Int) := ⟨(x - 1).toNat, by omega⟩
      rw [hy] at ha ⊢
      unfold plL at ha
      rw [if_pos ha.2] at ha
      have hlo := (mapF_lo (E := E) (y := y) p (-1) 0 0 o3 (by omega) (by omega)).1
      rw [anc_L u3, if_neg (by omega)] at hb
      simp only [Prod.mk.injEq] at hb
      rw [← ha.1, show (mapF E y 0 p).1 + 1 - 1 = (mapF E y 0 p).1 by omega] at hb
      have k := key y (by omega) ha.2 hb.2
      rw [k]
      have hb1 := hb.1
      unfold plL at hb1 ⊢
      rw [if_pos hb.2] at hb1
      rw [if_pos rfl, hb1]
end M
end Go.Proofs.Ytplccefjljdjnaa
namespace Go.Proofs.Ytplccefjljdjnaa
open Go.RowKit Go.Lib
namespace M
def encPc (x : Pcx) : List Value := [.int .i64 (x.t : Int), .int .i64 (x.f : Int), .int .i64 (x.n : Int)]
theorem encPc_len (x : Pcx) : (encPc x).length = 3 := rfl
theorem encPc_one (x : Pcx) : ∀ u ∈ encPc x, u.oneCell' = true := by simp [encPc, Value.oneCell']
abbrev Pcs (B : Nat) (W : World) (v : Value) (l : List Pcx) : Prop := SlA B W 138 3 encPc v l
theorem elemPc : Elem Try.prog 139 138 3 24 := elem_of Try.underlying139 (z := .agg #[.int .i64 0, .int .i64 0, .int .i64 0]) (by kernel_rfl) rfl (by decide) (by decide)
/-- A slice of pieces, wherever it lies. -/
def RowPc (W : World) (v : Value) (l : List Pcx) : Prop :=
  ∃ a cap, v = .slice a l.length cap ∧ l.length ≤ cap ∧ cap ≤ maxLen ∧ ∀ (i : Nat) (h : i < l.length), ∃ b, a = some b ∧
    W.cell? (b.add (i * 3)) = some (.int .i64 (l[i].t : Int)) ∧ W.cell? ⟨(b.add (i * 3)).block, (b.add (i * 3)).off + 1, none⟩ = some (.int .i64 (l[i].f : Int)) ∧ W.cell? ⟨(b.add (i * 3)).block, (b.add (i * 3)).off + 2, none⟩ = some (.int .i64 (l[i].n : Int))
theorem addr_pos' (b : Addr) {n : Nat} (h : n ≠ 0) : b.add n = ⟨b.block, b.off + n, none⟩ := by
  cases n with
  | zero => exact absurd rfl h
  | succ n => unfold Addr.add; simp
theorem addr_zero' (b : Addr) : b.add 0 = b := by unfold Addr.add; simp
theorem addr_add' (b : Addr) (i j : Nat) : (b.add i).add j = b.add (j + i) := by
  by_cases h1 : i = 0
  · subst h1; rw [addr_zero', Nat.add_zero]
  · by_cases h2 : j = 0
    · subst h2; rw [addr_zero', Nat.zero_add]
    · rw [addr_pos' b h1, addr_pos' _ h2, addr_pos' b (by omega)]
      simp only [Addr.mk.injEq, true_and, and_true]
      omega
theorem Pcs.row {B : Nat} {W : World} {v : Value} {l : List Pcx} (h : Pcs B W v l) : RowPc W v l := by
  rcases h.shape with ⟨rfl, rfl⟩ | ⟨g, cap, rfl, h1, h2⟩
  · exact ⟨none, 0, rfl, by simp, by unfold maxLen; omega, fun i h => by simp at h⟩
  · refine ⟨_, cap, rfl, h1, h2, fun i hi => ⟨_, rfl, ?_⟩⟩
    have e0 := SlA.cell encPc_len h hi (j := 0) (by omega); have e1 := SlA.cell encPc_len h hi (j := 1) (by omega); have e2 := SlA.cell encPc_len h hi (j := 2) (by omega)
    have ea : (⟨g, 0, none⟩ : Addr).add (i * 3) = ⟨g, i * 3, none⟩ := by unfold Addr.add; split <;> simp_all
    rw [ea]
    exact ⟨e0, e1, e2⟩
/-- What a cut of the first piece leaves. -/
theorem pc_drop (a0 : Option Addr) (c : Nat) {x : Pcx} {l : List Pcx} (hc : l.length + 1 ≤ c) :
    ∃ A' c', (∀ w, (Instr.slice 139 (.slice a0 (l.length + 1) c) (some (.int .i64 1)) none none).run Try.prog w = .ok (.slice A' l.length c') w) ∧ ∀ W, RowPc W (.slice a0 (l.length + 1) c) (x :: l) → RowPc W (.slice A' l.length c') l := by
  have hs : ∀ w, (sizeOf (Try.prog.elem 139)).run Try.prog w = .ok 3 w := fun w => by kernel_rfl
  have hr : ∀ w, (Instr.slice 139 (.slice a0 (l.length + 1) c) (some (.int .i64 1)) none none).run Try.prog w = .ok (sliced a0 1 (l.length + 1) c 3) w := fun w => by
    have := run_slice_l (P := Try.prog) w 139 a0 (l.length + 1) c (by kernel_rfl) .i64 1 (by omega) (by omega)
    rw [this, hs]; simp [Result.andThen]
  refine ⟨(if c = 1 then a0 else a0.map (·.add 3)), c - 1, (fun w => by rw [hr w]; simp [sliced]), ?_⟩
  rintro W ⟨a, cap, hv, h1, h2, h4⟩
  simp only [Value.slice.injEq] at hv
  obtain ⟨rfl, -, rfl⟩ := hv
  simp only [List.length_cons] at h1
  refine ⟨_, _, rfl, by omega, by omega, ?_⟩
  intro j hj
  obtain ⟨g, rfl, e0, e1, e2⟩ := h4 (j + 1) (by simpa using hj)
  have hne : ¬ c = 1 := by omega
  rw [if_neg hne]
  have hx : (x :: l)[j + 1]'(by simpa using hj) = l[j] := rfl
  have hadd : (g.add 3).add (j * 3) = g.add ((j + 1) * 3) := by rw [addr_add']; congr 1; omega
  rw [hx] at e0 e1 e2
  exact ⟨_, rfl, by rw [hadd]; exact e0, by rw [hadd]; exact e1, by rw [hadd]; exact e2⟩
/-- A reader's block. -/
def RdC (W : World) (p : Nat) (v : Value) (u a : Nat) : Prop := W.heap[p]? = some (.cells #[v, .int .i64 (u : Int), .int .i64 (a : Int)] 159 (0, 0))
theorem RdC.cells {W : World} {p : Nat} {v : Value} {u a : Nat} (h : RdC W p v u a) : W.cell? ⟨p, 0, none⟩ = some v ∧ W.cell? ⟨p, 1, none⟩ = some (.int .i64 (u : Int)) ∧ W.cell? ⟨p, 2, none⟩ = some (.int .i64 (a : Int)) ∧ W.frozen? ⟨p, 0, none⟩ = false ∧ W.frozen? ⟨p, 1, none⟩ = false ∧ W.frozen? ⟨p, 2, none⟩ = false := by
  unfold RdC at h
  simp [World.cell?, World.frozen?, h]
theorem RdC.setV {W : World} {p : Nat} {v : Value} {u a : Nat} (h : RdC W p v u a) (v' : Value) : RdC (W.setCell ⟨p, 0, none⟩ v') p v' u a := by
  unfold RdC at h ⊢
  rw [heap_set0 _ h]; rfl
theorem RdC.setU {W : World} {p : Nat} {v : Value} {u a : Nat} (h : RdC W p v u a) (u' : Nat) : RdC (W.setCell ⟨p, 1, none⟩ (.int .i64 (u' : Int))) p v u' a := by
  unfold RdC at h ⊢
  rw [heap_set0 _ h]; rfl
theorem RdC.setA {W : World} {p : Nat} {v : Value} {u a : Nat} (h : RdC W p v u a) (a' : Nat) : RdC (W.setCell ⟨p, 2, none⟩ (.int .i64 (a' : Int))) p v u a' := by
  unfold RdC at h ⊢
  rw [heap_set0 _ h]; rfl
/-- A box into which a piece is laid. -/
def PcC (W : World) (g : Nat) (x : Pcx) : Prop := W.heap[g]? = some (.cells #[.int .i64 (x.t : Int), .int .i64 (x.f : Int), .int .i64 (x.n : Int)] 138 (0, 0))
theorem PcC.cells {W : World} {g : Nat} {x : Pcx} (h : PcC W g x) : W.cell? ⟨g, 0, none⟩ = some (.int .i64 (x.t : Int)) ∧ W.cell? ⟨g, 1, none⟩ = some (.int .i64 (x.f : Int)) ∧ W.cell? ⟨g, 2, none⟩ = some (.int .i64 (x.n : Int)) := by
  unfold PcC at h
  simp [World.cell?, h]
theorem PcC.free {W : World} {g : Nat} {x : Pcx} (h : PcC W g x) (i : Nat) : W.frozen? ⟨g, i, none⟩ = false := by
  unfold PcC at h
  simp [World.frozen?, h]
theorem PcC.set {W : World} {g p i : Nat} {x : Pcx} (h : PcC W g x) (hn : p ≠ g) (v : Value) : PcC (W.setCell ⟨p, i, none⟩ v) g x := by
  unfold PcC at h ⊢
  rw [Below.heap_setCell _ _ _ _ (fun e => hn e.symm)]; exact h
theorem newPc (w : World) (x : Pcx) : ∃ wz w2, w.alloc (.cells #[.int .i64 0, .int .i64 0, .int .i64 0] 138) = wz ∧
    ((wz.setCell ⟨w.heap.size, 0, none⟩ (.int .i64 (x.t : Int))).setCell ⟨w.heap.size, 1, none⟩ (.int .i64 (x.f : Int))).setCell ⟨w.heap.size, 2, none⟩ (.int .i64 (x.n : Int)) = w2 ∧ PcC w2 w.heap.size x ∧ Below w.heap.size w w2 ∧
    (wz.cell? ⟨w.heap.size, 0, none⟩ = some (.int .i64 0) ∧ wz.cell? ⟨w.heap.size, 1, none⟩ = some (.int .i64 0) ∧ wz.cell? ⟨w.heap.size, 2, none⟩ = some (.int .i64 0)) ∧ (wz.frozen? ⟨w.heap.size, 0, none⟩ = false ∧ wz.frozen? ⟨w.heap.size, 1, none⟩ = false ∧ wz.frozen? ⟨w.heap.size, 2, none⟩ = false) := by
  have k0 : PcC (w.alloc (.cells #[.int .i64 0, .int .i64 0, .int .i64 0] 138)) w.heap.size ⟨0, 0, 0⟩ := heap_new' _ _
  have b0 : Below w.heap.size w (w.alloc (.cells #[.int .i64 0, .int .i64 0, .int .i64 0] 138)) := (Below.refl _ _).alloc (Nat.le_refl _) _
  exact ⟨_, _, rfl, rfl, heap_set0 _ (heap_set0 _ (heap_set0 _ k0)), ((b0.setCell (p := ⟨w.heap.size, 0, none⟩) (Nat.le_refl _) _).setCell (p := ⟨w.heap.size, 1, none⟩) (Nat.le_refl _) _).setCell (p := ⟨w.heap.size, 2, none⟩) (Nat.le_refl _) _, k0.cells, k0.free 0, k0.free 1, k0.free 2⟩
/-- Pieces whose numbers are small. -/
def PcB (l : List Pcx) : Prop := ∀ x ∈ l, x.t ≤ 4611686018427387904 ∧ x.f + x.n ≤ 4611686018427387904
/-- What a reader's loop counts down. -/
def rdM (p T : Nat) (w : World) : Nat := 2 * (match w.cell? ⟨p, 0, none⟩ with | some (.slice _ n _) => n | _ => 0) + (match w.cell? ⟨p, 2, none⟩ with | some (.int _ a) => if a < (T : Int) then 1 else 0 | _ => 0)
theorem rdM_at {w : World} {p T : Nat} {s : Option Addr} {n c u a : Nat} (h : RdC w p (.slice s n c) u a) : rdM p T w = 2 * n + if (a : Int) < T then 1 else 0 := by
  obtain ⟨c0, -, c2, -⟩ := h.cells
  unfold rdM
  rw [c0, c2]
abbrev tsR : List TypeId := [159, 138]
theorem StAt.onT {n0 B most : Nat} {ts : List TypeId} {A C : World} {E : List En} (hs : StAt n0 A B most E) (h : OnT ts A C) (h1 : 91 ∉ ts) (h2 : 121 ∉ ts) : StAt n0 C B most E := by
  obtain ⟨lv, mb, k1, k2, k3, k4⟩ := hs
  refine ⟨lv, mb, h.cells k1 h1, SlA.keep k2 (fun k cs fz e => h.cells e h2), ?_, k4⟩
  obtain ⟨es, c, h5, h6⟩ := k3
  exact ⟨es, c, h.block _ _ h5 (fun cs t fz e => by cases e), h6⟩
end M
end Go.Proofs.Ytplccefjljdjnaa
namespace Go.Proofs.Ytplccefjljdjnaa
open Go.RowKit Go.Lib
namespace M
attribute [local go_sem] Oper.semAt_some
/-- Below a block the world is as it was, but for one block. -/
structure BX (p lo : Nat) (w w' : World) : Prop where
  os : w'.os = w.os
  tape : w'.tape = w.tape
  output : w'.output = w.output
  size : w.heap.size ≤ w'.heap.size
  block : ∀ k, k < lo → k ≠ p → w'.heap[k]? = w.heap[k]?
theorem BX.of {p lo : Nat} {A B : World} (h : Below lo A B) : BX p lo A B := ⟨h.os, h.tape, h.output, h.size, fun k hk _ => h.block k hk⟩
theorem BX.refl (p lo : Nat) (A : World) : BX p lo A A := .of (Below.refl _ _)
theorem BX.trans {p lo : Nat} {A B C : World} (h : BX p lo A B) (k : BX p lo B C) : BX p lo A C :=
  ⟨k.os.trans h.os, k.tape.trans h.tape, k.output.trans h.output, Nat.le_trans h.size k.size, fun i hi hp => (k.block i hi hp).trans (h.block i hi hp)⟩
theorem BX.set {p lo : Nat} {A B : World} (h : BX p lo A B) (i : Nat) (v : Value) : BX p lo A (B.setCell ⟨p, i, none⟩ v) :=
  h.trans ⟨rfl, rfl, rfl, by simp [World.setCell], fun k _ hk => Below.heap_setCell _ _ _ _ hk⟩
theorem BX.mono {p lo lo' : Nat} {A B : World} (h : BX p lo A B) (hl : lo' ≤ lo) : BX p lo' A B := ⟨h.os, h.tape, h.output, h.size, fun k hk hp => h.block k (Nat.lt_of_lt_of_le hk hl) hp⟩
theorem BX.below {p lo : Nat} {A B : World} (h : BX p lo A B) (hp : lo ≤ p) : Below lo A B := ⟨h.os, h.tape, h.output, h.size, fun k hk => h.block k hk (by omega)⟩
/-- What read leaves. -/
def ReadP (lo2 lo p : Nat) (l : List Pcx) (u a : Nat) (em0 : List Pcx) (T : Nat) (W : World) (e : Ending) (w' : World) : Prop :=
  ∃ v' vt', e = .returned vt' ∧ RdC w' p v' (readF l u a T).u (readF l u a T).a ∧ (∀ w, BX p lo2 w' w → RowPc w v' (readF l u a T).l) ∧ Pcs lo w' vt' (em0 ++ (readF l u a T).em) ∧ OnT tsR W w' ∧ BX p lo W w'
/-- The loop's state: what is still to be read gives the same. -/
def ReadI (lo2 lo p : Nat) (r0 : Rd) (em0 : List Pcx) (T : Nat) (W : World) (to : Value) (wr : World) : Prop :=
  ∃ em l u a sa sc, Pcs lo wr to em ∧ RdC wr p (.slice sa l.length sc) u a ∧ (∀ w, BX p lo2 wr w → RowPc w (.slice sa l.length sc) l) ∧ UOk l u ∧ PcB l ∧ a ≤ 9223372036854775807 ∧ em0 ++ r0.em = em ++ (readF l u a T).em ∧ r0.l = (readF l u a T).l ∧ r0.u = (readF l u a T).u ∧ r0.a = (readF l u a T).a ∧ OnT tsR W wr ∧ BX p lo W wr
theorem readF_full {x : Pcx} {l : List Pcx} {u a T : Nat} (ha : a < T) (hf : u + rdN x u a T = x.n) : (readF (x :: l) u a T).em = rdE x u a T ++ (readF l 0 (a + rdN x u a T) T).em ∧ (readF (x :: l) u a T).l = (readF l 0 (a + rdN x u a T) T).l ∧ (readF (x :: l) u a T).u = (readF l 0 (a + rdN x u a T) T).u ∧ (readF (x :: l) u a T).a = (readF l 0 (a + rdN x u a T) T).a := by
  conv => lhs; rw [readF, if_pos ha, if_pos hf]
  conv => rhs; lhs; lhs; rw [readF, if_pos ha, if_pos hf]
  conv => rhs; rhs; lhs; lhs; rw [readF, if_pos ha, if_pos hf]
  conv => rhs; rhs; rhs; lhs; rw [readF, if_pos ha, if_pos hf]
  exact ⟨rfl, rfl, rfl, rfl⟩
theorem readF_part {x : Pcx} {l : List Pcx} {u a T : Nat} (ha : a < T) (hf : u + rdN x u a T ≠ x.n) (hu : u ≤ x.n) : a + rdN x u a T = T ∧ readF (x :: l) u a T = ⟨rdE x u a T, x :: l, u + rdN x u a T, a + rdN x u a T⟩ ∧ readF (x :: l) (u + rdN x u a T) (a + rdN x u a T) T = ⟨[], x :: l, u + rdN x u a T, a + rdN x u a T⟩ := by
  have hT : a + rdN x u a T = T := by unfold rdN at hf ⊢; omega
  refine ⟨hT, ?_, ?_⟩
  · rw [readF, if_pos ha, if_neg hf]
  · rw [readF, if_neg (by omega)]
theorem readF_stop {x : Pcx} {l : List Pcx} {u a T : Nat} (ha : ¬ a < T) : readF (x :: l) u a T = ⟨[], x :: l, u, a⟩ := by rw [readF, if_neg ha]
set_option maxRecDepth 100000 in
set_option maxHeartbeats 8000000 in
theorem read_any {lo2 lo p : Nat} {W : World} (hlo : lo ≤ W.heap.size) (hl2 : lo2 ≤ lo) {v : Value} {l : List Pcx} {u a : Nat} (hR : RdC W p v u a) (hrow : ∀ w, BX p lo2 W w → RowPc w v l) (hU : UOk l u) (hB : PcB l) {vt : Value} {em0 : List Pcx} (hem : Pcs lo W vt em0) (T : Nat) (hT : T ≤ 9223372036854775807) (ha : a ≤ 9223372036854775807) (hlen : em0.length + l.length ≤ 10000) :
    Calls Try.prog 82 #[.pointer (some ⟨p, 0, none⟩), vt, .int .i64 (T : Nat)] W (ReadP lo2 lo p l u a em0 T W) := by
  have HF : ∀ f, Fence.wide.fn f := fun _ => trivial
  have hspec := readF_spec l u a T hU
  obtain ⟨r0, hr0⟩ : ∃ r, readF l u a T = r := ⟨_, rfl⟩
  unfold ReadP
  rw [hr0] at hspec ⊢
  have HSP := Lib.hid hspec.2.2.2.2.1
  have HLN := Lib.hid hlen
  have HLO := Lib.hid hlo
  have HL2 := Lib.hid hl2
  have HI0 : Hid (ReadI lo2 lo p r0 em0 T W vt W) := by
    obtain ⟨sa, sc, rfl, -⟩ := hrow W (BX.refl _ _ _)
    exact Lib.hid ⟨em0, l, u, a, sa, sc, hem, hR, hrow, hU, hB, ha, by rw [hr0], by rw [hr0], by rw [hr0], by rw [hr0], OnT.refl _ _, BX.refl _ _ _⟩
  clear hspec hr0 hR hrow hU hB hem ha hlen hlo hl2
  go_enter Try.func82, Try.ntmps82
  go_wp2_with fail
  go_loopw [1] (fun to wr => ReadI lo2 lo p r0 em0 T W to wr) (fun _ wr => rdM p T wr)
  case atStart => exact HI0.out
  case round =>
    obtain ⟨em, l, u, a, sa, sc, hem, hR, hrow, hU, hB, ha, q1, q2, q3, q4, ho, hb⟩ := hrel
    obtain ⟨toa, toc, htoe⟩ := hem.len
    obtain ⟨ton, hton⟩ : ∃ n, em.length = n := ⟨_, rfl⟩
    rw [hton] at htoe
    subst htoe
    have HTO := Lib.hid hton
    clear hton
    have HEND := Lib.hid (And.intro hem (And.intro hR (And.intro hrow (And.intro q1 (And.intro q2 (And.intro q3 (And.intro q4 (And.intro ho hb))))))))
    have HUB := Lib.hid (And.intro hU hB)
    have hMS := rdM_at (T := T) hR
    have HMS := Lib.hid hMS
    obtain ⟨c0, c1, c2, f0, f1, f2⟩ := hR.cells
    have hrw := hrow wr (BX.refl _ _ _)
    clear hem hR hrow hU hB q1 q2 q3 q4 ho hb hMS
    cases l with
    | nil =>
      have hz : ¬ ((0 : Nat) : Int) > 0 := by omega
      have hz2 : (([] : List Pcx).length : Int) = 0 := rfl
      simp only [List.length_nil] at c0
      go_wp2_with fail
      go_ret
      obtain ⟨e1, e2, e3, e4, e5, e6, e7, e8, e9⟩ := HEND.out
      exact ⟨_, _, rfl, by rw [e6, e7]; exact e2, by rw [e5]; exact e3, by rw [e4]; simpa [readF] using e1, e8, e9⟩
    | cons x l =>
      have hl0 : ((l.length + 1 : Nat) : Int) > 0 := by omega
      simp only [List.length_cons] at c0
      by_cases haT : a < T
      rotate_left
      · have hab : ¬ (a : Int) < (T : Int) := by omega
        go_wp2_with fail
        go_ret
        obtain ⟨e1, e2, e3, e4, e5, e6, e7, e8, e9⟩ := HEND.out
        rw [readF_stop haT] at e4 e5 e6 e7
        exact ⟨_, _, rfl, by rw [e6, e7]; exact e2, by rw [e5]; exact e3, by rw [e4]; simpa using e1, e8, e9⟩
      have hab : (a : Int) < (T : Int) := by omega
      obtain ⟨sa', sc', he, hc1, hc2, hcc⟩ := hrw
      simp only [Value.slice.injEq] at he
      obtain ⟨rfl, -, rfl⟩ := he
      obtain ⟨b, rfl, m0, m1, m2⟩ := hcc 0 (by simp)
      simp only [Nat.zero_mul, addr_zero', List.getElem_cons_zero] at m0 m1 m2
      obtain ⟨hu, hpb⟩ := HUB.out
      have hux : u ≤ x.n := hu
      have hxb := hpb x (by simp)
      have hUL : UOk l 0 := by cases l <;> simp [UOk]
      have hPL : PcB l := fun y hy => hpb y (by simp [hy])
      have HUL := Lib.hid (And.intro hUL (And.intro hPL hpb))
      obtain ⟨A', c', hsl, hdr⟩ := pc_drop (some b) sc (x := x) (l := l) (by simpa using hc1)
      have HDR := Lib.hid hdr
      obtain ⟨wz, w2, hz, hs1, kp, bw, ⟨p0, p1, p2⟩, g0, g1, g2⟩ := newPc wr x
      obtain ⟨gc, hgc⟩ : ∃ g, wr.heap.size = g := ⟨_, rfl⟩
      rw [hgc] at hs1 kp p0 p1 p2 g0 g1 g2
      have hR2 : RdC w2 p (.slice (some b) (l.length + 1) sc) u a := below_block bw HEND.out.2.1
      have HB2 := Lib.hid bw
      have HKP := Lib.hid kp
      obtain ⟨d0, d1, d2, h0, h1, h2⟩ := hR2.cells
      obtain ⟨y0, y1, y2⟩ := kp.cells
      have HR2 := Lib.hid hR2
      have HGC : Hid (p ≠ gc ∧ ∀ q, (Value.slice toa ton toc).ownBlock = some q → q < gc) := Lib.hid ⟨fun e => by
        have h := HEND.out.2.1
        have := (Array.getElem?_eq_some_iff.1 h).1
        omega, fun q hq => by have := SlA.own_lt HEND.out.1 hq; omega⟩
      have hw1 : IntKind.i64.wrap ((x.n : Int) - (u : Int)) = ((x.n - u : Nat) : Int) := by rw [IntKind.wrap_i64]; omega
      have hw2 : IntKind.i64.wrap ((T : Int) - (a : Int)) = ((T - a : Nat) : Int) := by rw [IntKind.wrap_i64]; omega
      obtain ⟨N, hN⟩ : ∃ n, rdN x u a T = n := ⟨_, rfl⟩
      have hmin : min ((x.n - u : Nat) : Int) ((T - a : Nat) : Int) = (N : Int) := by rw [← hN]; unfold rdN; omega
      have hNa : a + N ≤ T := by rw [← hN]; unfold rdN; omega
      have hNu : u + N ≤ x.n := by rw [← hN]; unfold rdN; omega
      have HN := Lib.hid hN
      obtain ⟨aN, haN⟩ : ∃ n, a + N = n := ⟨_, rfl⟩
      obtain ⟨uN, huN⟩ : ∃ n, u + N = n := ⟨_, rfl⟩
      obtain ⟨fu, hfu⟩ : ∃ n, x.f + u = n := ⟨_, rfl⟩
      have hw3 : IntKind.i64.wrap ((a : Int) + (N : Int)) = (aN : Int) := by rw [IntKind.wrap_i64]; omega
      have hw4 : IntKind.i64.wrap ((u : Int) + (N : Int)) = (uN : Int) := by rw [IntKind.wrap_i64]; omega
      have hw5 : IntKind.i64.wrap ((x.f : Int) + (u : Int)) = (fu : Int) := by rw [IntKind.wrap_i64]; omega
      have HSU := Lib.hid (And.intro haN (And.intro huN hfu))
      rw [haN] at hNa
      rw [huN] at hNu
      generalize x.n - u = nu at *
      generalize T - a = ta at *
      clear hcc bw kp hR2 hu hpb hux hUL hPL hdr hc1 hc2 hN hl0 hxb haN huN hfu
      go_wp2_with fail
      clear hz hs1 p0 p1 p2 g0 g1 g2 m0 m1 m2 c0 c1 c2 f0 f1 f2
      have HMN := Lib.hid hmin
      clear hmin
      rcases Nat.lt_trichotomy nu ta with hc | hc | hc
      · as_aux_lemma =>
          obtain rfl : nu = N := by have := HMN.out; omega
          have hci : (nu : Int) < (ta : Int) := by omega
          obtain ⟨w3, hw3e⟩ : ∃ w, w2.drew = w := ⟨_, rfl⟩
          have b3 : Below w2.heap.size w2 w3 := by rw [← hw3e]; exact (Below.refl _ _).drew
          have HR3 := Lib.hid (show RdC w3 p (.slice (some b) (l.length + 1) sc) u a from below_block b3 HR2.out)
          have HK3 := Lib.hid (show PcC w3 gc x from below_block b3 HKP.out)
          have HB3 := Lib.hid (Below.after HB2.out b3)
          clear d0 d1 d2 h0 h1 h2 y0 y1 y2 b3
          obtain ⟨d0, d1, d2, h0, h1, h2⟩ := HR3.out.cells
          obtain ⟨y0, y1, y2⟩ := HK3.out.cells
          refine wp_region_anyH (fun w => w = w3) (by kernel_rfl) ?_
          rw [hw3e]
          clear hw3e
          have SW : w3 = w3 := rfl
          refine AnyH.take (i := 0) (d := some 29) (v := ?_) (by kernel_rfl) rfl rfl HF (fun _ _ _ h => h) (.inl ⟨by rfl, ?_⟩) (by first | assumption | rfl) ?_
          rotate_left
          · intro w hS; try subst hS
            go_simp; try with_reducible rfl
          try simp only [Act.put, List.setIfInBounds_toArray, List.set_cons_zero, List.set_cons_succ]
          refine AnyH.take (i := 1) (d := some 30) (v := ?_) (by kernel_rfl) rfl rfl HF (fun _ _ _ h => h) (.inl ⟨by rfl, ?_⟩) (by first | assumption | rfl) ?_
          rotate_left
          · intro w hS; try subst hS
            go_simp; try with_reducible rfl
          try simp only [Act.put, List.setIfInBounds_toArray, List.set_cons_zero, List.set_cons_succ]
          refine AnyH.take (i := 2) (d := some 31) (v := ?_) (by kernel_rfl) rfl rfl HF (fun _ _ _ h => h) (.inl ⟨by rfl, ?_⟩) (by first | assumption | rfl) ?_
          rotate_left
          · intro w hS; try subst hS
            go_simp; try with_reducible rfl
          try simp only [Act.put, List.setIfInBounds_toArray, List.set_cons_zero, List.set_cons_succ]
          refine AnyH.take (i := 3) (d := some 32) (v := ?_) (by kernel_rfl) rfl rfl HF (fun _ _ _ h => h) (.inl ⟨by rfl, ?_⟩) (by first | assumption | rfl) ?_
          rotate_left
          · intro w hS; try subst hS
            go_simp; try with_reducible rfl
          try simp only [Act.put, List.setIfInBounds_toArray, List.set_cons_zero, List.set_cons_succ]
          refine AnyH.take (i := 4) (d := some 33) (v := ?_) (by kernel_rfl) rfl rfl HF (fun _ _ _ h => h) (.inl ⟨by rfl, ?_⟩) (by first | assumption | rfl) ?_
          rotate_left
          · intro w hS; try subst hS
            go_simp; try with_reducible rfl
          try simp only [Act.put, List.setIfInBounds_toArray, List.set_cons_zero, List.set_cons_succ]
          refine AnyH.take (i := 5) (d := some 34) (v := ?_) (by kernel_rfl) rfl rfl HF (fun _ _ _ h => h) (.inl ⟨by rfl, ?_⟩) (by first | assumption | rfl) ?_
          rotate_left
          · intro w hS; try subst hS
            go_simp; try with_reducible rfl
          try simp only [Act.put, List.setIfInBounds_toArray, List.set_cons_zero, List.set_cons_succ]
          refine AnyH.take (i := 6) (d := some 35) (v := ?_) (by kernel_rfl) rfl rfl HF (fun _ _ _ h => h) (.inl ⟨by rfl, ?_⟩) (by first | assumption | rfl) ?_
          rotate_left
          · intro w hS; try subst hS
            go_simp; try with_reducible rfl
          try simp only [Act.put, List.setIfInBounds_toArray, List.set_cons_zero, List.set_cons_succ]
          refine AnyH.take (i := 7) (d := some 36) (v := ?_) (by kernel_rfl) rfl rfl HF (fun _ _ _ h => h) (.inl ⟨by rfl, ?_⟩) (by first | assumption | rfl) ?_
          rotate_left
          · intro w hS; try subst hS
            go_simp; try with_reducible rfl
          try simp only [Act.put, List.setIfInBounds_toArray, List.set_cons_zero, List.set_cons_succ]
          refine AnyH.take (i := 8) (d := some 37) (v := ?_) (by kernel_rfl) rfl rfl HF (fun _ _ _ h => h) (.inl ⟨by rfl, ?_⟩) (by first | assumption | rfl) ?_
          rotate_left
          · intro w hS; try subst hS
            go_simp; try with_reducible rfl
          try simp only [Act.put, List.setIfInBounds_toArray, List.set_cons_zero, List.set_cons_succ]
          refine AnyH.take (i := 9) (d := some 38) (v := ?_) (by kernel_rfl) rfl rfl HF (fun _ _ _ h => h) (.inl ⟨by rfl, ?_⟩) (by first | assumption | rfl) ?_
          rotate_left
          · intro w hS; try subst hS
            go_simp; try with_reducible rfl
          try simp only [Act.put, List.setIfInBounds_toArray, List.set_cons_zero, List.set_cons_succ]
          refine AnyH.take (i := 10) (d := some 39) (v := ?_) (by kernel_rfl) rfl rfl HF (fun _ _ _ h => h) (.inl ⟨by rfl, ?_⟩) (by first | assumption | rfl) ?_
          rotate_left
          · intro w hS; try subst hS
            go_simp; try with_reducible rfl
          try simp only [Act.put, List.setIfInBounds_toArray, List.set_cons_zero, List.set_cons_succ]
          refine AnyH.take (i := 11) (d := some 40) (v := ?_) (by kernel_rfl) rfl rfl HF (fun _ _ _ h => h) (.inl ⟨by rfl, ?_⟩) (by first | assumption | rfl) ?_
          rotate_left
          · intro w hS; try subst hS
            go_simp; try with_reducible rfl
          try simp only [Act.put, List.setIfInBounds_toArray, List.set_cons_zero, List.set_cons_succ]
          refine AnyH.take (i := 12) (d := some 41) (v := ?_) (by kernel_rfl) rfl rfl HF (fun _ _ _ h => h) (.inl ⟨by rfl, ?_⟩) (by first | assumption | rfl) ?_
          rotate_left
          · intro w hS; try subst hS
            go_simp; try with_reducible rfl
          try simp only [Act.put, List.setIfInBounds_toArray, List.set_cons_zero, List.set_cons_succ]
          refine AnyH.take (i := 13) (d := some 42) (v := ?_) (by kernel_rfl) rfl rfl HF (fun _ _ _ h => h) (.inl ⟨by rfl, ?_⟩) (by first | assumption | rfl) ?_
          rotate_left
          · intro w hS; try subst hS
            go_simp; try with_reducible rfl
          try simp only [Act.put, List.setIfInBounds_toArray, List.set_cons_zero, List.set_cons_succ]
          refine AnyH.take (i := 14) (d := some 8) (v := ?_) (by kernel_rfl) rfl rfl HF (fun _ _ _ h => h) (.inl ⟨by rfl, ?_⟩) (by first | assumption | rfl) ?_
          rotate_left
          · intro w hS; try subst hS
            go_simp; try with_reducible rfl
          try simp only [Act.put, List.setIfInBounds_toArray, List.set_cons_zero, List.set_cons_succ]
          refine AnyH.done (by kernel_rfl) ?_
          clear SW
          by_cases hn0 : 0 < nu
          · have hn1 : (nu : Int) > 0 := by omega
            go_wp2_with fail
            obtain ⟨w4, hw4e⟩ : ∃ w, w3.drew = w := ⟨_, rfl⟩
            have b4 : Below w3.heap.size w3 w4 := by rw [← hw4e]; exact (Below.refl _ _).drew
            have hR4 : RdC w4 p (.slice (some b) (l.length + 1) sc) u a := below_block b4 HR3.out
            have hK4 : PcC w4 gc x := below_block b4 HK3.out
            have HB4 := Lib.hid (Below.after HB3.out b4)
            have hem4 : Pcs lo w4 (.slice toa ton toc) em := SlA.below HEND.out.1 HB4.out
            have hlo4 : lo ≤ w4.heap.size := Nat.le_trans HLO.out (Nat.le_trans HEND.out.2.2.2.2.2.2.2.2.size HB4.out.size)
            have hlm : em.length ≤ 20001 := by
              have h1 := HEND.out.2.2.2.1
              have h2 := congrArg List.length h1
              rw [List.length_append, List.length_append] at h2
              have := HSP.out; have := HLN.out; omega
            obtain ⟨v5, w5, hrun, hS5, hg5, hb5, -⟩ := run_app1F (P := Try.prog) elemPc encPc_len 139 hem4 ⟨x.t, fu, nu⟩ 1 (cs := #[.int .i64 (x.t : Int), .int .i64 (fu : Int), .int .i64 (nu : Int)]) rfl (encPc_one _) (by omega) hlo4
            have hal : Below w4.heap.size w4 (w4.alloc (.cells #[.int .i64 (x.t : Int), .int .i64 (fu : Int), .int .i64 (nu : Int)] 138)) := (Below.refl _ _).alloc (Nat.le_refl _) _
            have hR5 : RdC w5 p (.slice (some b) (l.length + 1) sc) u a := app_other hem4 hg5 hR4 (by decide)
            have hgc4 : gc < w4.heap.size := (Array.getElem?_eq_some_iff.1 hK4).1
            have hK5 : PcC w5 gc x := by
              unfold PcC
              rw [hg5.block gc (by simp; omega) (fun e => absurd (HGC.out.2 _ e.symm) (Nat.lt_irrefl _)), Below.heap_alloc _ _ _ hgc4]
              exact hK4
            have HO5 : Hid (OnT tsR W w5) := Lib.hid ((HEND.out.2.2.2.2.2.2.2.1.trans (OnT.of HB4.out)).trans (OnT.own hem4 hal hg5 (by decide)))
            have HBB5 : Hid (BX p lo wr w5) := Lib.hid (BX.of ((HB4.out.mono (Nat.le_trans HLO.out HEND.out.2.2.2.2.2.2.2.2.size)).trans hb5))
            have HE5 : Hid (Pcs lo w5 v5 (em ++ rdE x u a T)) := Lib.hid (by unfold rdE; rw [HN.out, if_pos hn0, HSU.out.2.2]; exact hS5)
            have HR5 := Lib.hid hR5; have HK5 := Lib.hid hK5
            have S4 : RdC w4 p (.slice (some b) (l.length + 1) sc) u a ∧ PcC w4 gc x := ⟨hR4, hK4⟩
            have HS4 := Lib.hid (show RdC (w4.alloc (.cells #[.int .i64 (x.t : Int), .int .i64 (fu : Int), .int .i64 (nu : Int)] 138)) p (.slice (some b) (l.length + 1) sc) u a ∧ PcC (w4.alloc (.cells #[.int .i64 (x.t : Int), .int .i64 (fu : Int), .int .i64 (nu : Int)] 138)) gc x from ⟨below_block hal hR4, below_block hal hK4⟩)
            have S5 : RdC w5 p (.slice (some b) (l.length + 1) sc) u a ∧ PcC w5 gc x := ⟨hR5, hK5⟩
            have k0 : ∀ w, (RdC w p (.slice (some b) (l.length + 1) sc) u a ∧ PcC w gc x) → w.cell? ⟨p, 1, none⟩ = some (.int .i64 (u : Int)) := fun w h => h.1.cells.2.1
            have k1 : ∀ w, (RdC w p (.slice (some b) (l.length + 1) sc) u a ∧ PcC w gc x) → w.cell? ⟨gc, 0, none⟩ = some (.int .i64 (x.t : Int)) := fun w h => h.2.cells.1
            have k2 : ∀ w, (RdC w p (.slice (some b) (l.length + 1) sc) u a ∧ PcC w gc x) → w.cell? ⟨gc, 1, none⟩ = some (.int .i64 (x.f : Int)) := fun w h => h.2.cells.2.1
            clear d0 d1 d2 h0 h1 h2 y0 y1 y2 b4 hR4 hK4 hem4 hlo4 hlm hS5 hg5 hb5 hal hR5 hgc4 hK5
            refine wp_region_anyH (fun w => RdC w p (.slice (some b) (l.length + 1) sc) u a ∧ PcC w gc x) (by kernel_rfl) ?_
            rw [hw4e]
            clear hw4e
            refine AnyH.take (i := 0) (d := some 45) (v := ?_) (by kernel_rfl) rfl rfl HF (fun _ _ _ h => h) (.inl ⟨by rfl, ?_⟩) (by first | assumption | rfl) ?_
            rotate_left
            · intro w hS; try subst hS
              go_simp; try with_reducible rfl
            try simp only [Act.put, List.setIfInBounds_toArray, List.set_cons_zero, List.set_cons_succ]
            refine AnyH.take (i := 1) (d := some 46) (v := ?_) (by kernel_rfl) rfl rfl HF (fun _ _ _ h => h) (.inl ⟨by rfl, ?_⟩) (by first | assumption | rfl) ?_
            rotate_left
            · intro w hS; try subst hS
              go_simp; try with_reducible rfl
            try simp only [Act.put, List.setIfInBounds_toArray, List.set_cons_zero, List.set_cons_succ]
            refine AnyH.take (i := 2) (d := some 47) (v := ?_) (by kernel_rfl) rfl rfl HF (fun _ _ _ h => h) (.inl ⟨by rfl, ?_⟩) (by first | assumption | rfl) ?_
            rotate_left
            · intro w hS; try subst hS
              go_simp; try with_reducible rfl
            try simp only [Act.put, List.setIfInBounds_toArray, List.set_cons_zero, List.set_cons_succ]
            refine AnyH.take (i := 3) (d := some 48) (v := ?_) (by kernel_rfl) rfl rfl HF (fun _ _ _ h => h) (.inl ⟨by rfl, ?_⟩) (by first | assumption | rfl) ?_
            rotate_left
            · intro w hS; try subst hS
              go_simp; try with_reducible rfl
            try simp only [Act.put, List.setIfInBounds_toArray, List.set_cons_zero, List.set_cons_succ]
            refine AnyH.take (i := 4) (d := some 49) (v := ?_) (by kernel_rfl) rfl rfl HF (fun _ _ _ h => h) (.inl ⟨by rfl, ?_⟩) (by first | assumption | rfl) ?_
            rotate_left
            · intro w hS; try subst hS
              go_simp; try with_reducible rfl
            try simp only [Act.put, List.setIfInBounds_toArray, List.set_cons_zero, List.set_cons_succ]
            refine AnyH.take (i := 5) (d := some 50) (v := ?_) (by kernel_rfl) rfl rfl HF (fun _ _ _ h => h) (.inl ⟨by rfl, ?_⟩) (by first | assumption | rfl) ?_
            rotate_left
            · intro w hS; try subst hS
              go_simp; try with_reducible rfl
            try simp only [Act.put, List.setIfInBounds_toArray, List.set_cons_zero, List.set_cons_succ]
            refine AnyH.take (i := 6) (d := some 51) (v := ?_) (by kernel_rfl) rfl rfl HF (fun _ _ _ h => h) (.inl ⟨by rfl, ?_⟩) (by first | assumption | rfl) ?_
            rotate_left
            · intro w hS; try subst hS
              go_simp; try with_reducible rfl
            try simp only [Act.put, List.setIfInBounds_toArray, List.set_cons_zero, List.set_cons_succ]
            refine AnyH.take (i := 7) (d := some 52) (v := ?_) (by kernel_rfl) rfl rfl HF (fun _ _ _ h => h) (.inl ⟨by rfl, ?_⟩) (by first | assumption | rfl) ?_
            rotate_left
            · intro w hS; try subst hS
              go_simp; try with_reducible rfl
            try simp only [Act.put, List.setIfInBounds_toArray, List.set_cons_zero, List.set_cons_succ]
            refine AnyH.take (i := 8) (d := some 53) (v := ?_) (by kernel_rfl) rfl rfl HF (fun _ _ _ h => h) (.inl ⟨by rfl, ?_⟩) (by first | assumption | rfl) ?_
            rotate_left
            · intro w hS; try subst hS
              go_simp; try with_reducible rfl
            try simp only [Act.put, List.setIfInBounds_toArray, List.set_cons_zero, List.set_cons_succ]
            refine AnyH.take (i := 9) (d := some 54) (v := ?_) (by kernel_rfl) rfl rfl HF (fun _ _ _ h => h) (.inl ⟨by rfl, ?_⟩) (by first | assumption | rfl) ?_
            rotate_left
            · intro w hS; try subst hS
              go_simp; try with_reducible rfl
            try simp only [Act.put, List.setIfInBounds_toArray, List.set_cons_zero, List.set_cons_succ]
            refine AnyH.take (i := 10) (d := some 55) (v := ?_) (by kernel_rfl) rfl rfl HF (fun _ _ _ h => h) (.inl ⟨by rfl, ?_⟩) (by first | assumption | rfl) ?_
            rotate_left
            · intro w hS; try subst hS
              go_simp; try with_reducible rfl
            try simp only [Act.put, List.setIfInBounds_toArray, List.set_cons_zero, List.set_cons_succ]
            refine AnyH.take (i := 11) (d := some 56) (v := ?_) (by kernel_rfl) rfl rfl HF (fun _ _ _ h => h) (.inl ⟨by rfl, ?_⟩) (by first | assumption | rfl) ?_
            rotate_left
            · intro w hS; try subst hS
              go_simp; try with_reducible rfl
            try simp only [Act.put, List.setIfInBounds_toArray, List.set_cons_zero, List.set_cons_succ]
            refine AnyH.one (i := 12) (by kernel_rfl) (by kernel_rfl) rfl HF (by rfl) (fun K hK => ?_)
            go_simp
            refine hK _ _ HS4.out ?_
            clear hK K
            try simp only [Act.put, List.setIfInBounds_toArray, List.set_cons_zero, List.set_cons_succ]
            refine AnyH.one (i := 13) (by kernel_rfl) (by kernel_rfl) rfl HF (by rfl) (fun K hK => ?_)
            simp [execOp, resolve, invoke, builtin, hrun, Result.andThen, Act.eval, Oper.uponIn]
            refine hK _ _ S5 ?_
            clear hK K hrun
            try simp only [Act.put, List.setIfInBounds_toArray, List.set_cons_zero, List.set_cons_succ]
            refine AnyH.take (i := 14) (d := some 1) (v := ?_) (by kernel_rfl) rfl rfl HF (fun _ _ _ h => h) (.inl ⟨by rfl, ?_⟩) (by first | assumption | rfl) ?_
            rotate_left
            · intro w hS; try subst hS
              go_simp; try with_reducible rfl
            try simp only [Act.put, List.setIfInBounds_toArray, List.set_cons_zero, List.set_cons_succ]
            refine AnyH.done (by kernel_rfl) ?_
            clear S4 S5 k0 k1 k2
            obtain ⟨d0, d1, d2, h0, h1, h2⟩ := HR5.out.cells
            obtain ⟨y0, y1, y2⟩ := HK5.out.cells
            obtain ⟨w6, hw6⟩ : ∃ w, w5.setCell ⟨p, 2, none⟩ (.int .i64 (aN : Int)) = w := ⟨_, rfl⟩
            have hR6 : RdC w6 p (.slice (some b) (l.length + 1) sc) u aN := by rw [← hw6]; exact HR5.out.setA aN
            have hK6 : PcC w6 gc x := by rw [← hw6]; exact HK5.out.set HGC.out.1 _
            obtain ⟨d0', d1', d2', h0', h1', h2'⟩ := hR6.cells
            obtain ⟨w7, hw7⟩ : ∃ w, w6.setCell ⟨p, 1, none⟩ (.int .i64 (uN : Int)) = w := ⟨_, rfl⟩
            have hR7 : RdC w7 p (.slice (some b) (l.length + 1) sc) uN aN := by rw [← hw7]; exact hR6.setU uN
            have hK7 : PcC w7 gc x := by rw [← hw7]; exact hK6.set HGC.out.1 _
            have HO7 : Hid (OnT tsR W w7) := Lib.hid (by rw [← hw7, ← hw6]; exact (HO5.out.trans (OnT.set (a := ⟨p, 2, none⟩) HR5.out (by decide) _)).trans (OnT.set (a := ⟨p, 1, none⟩) (by rw [hw6]; exact hR6) (by decide) _))
            have HBB7 : Hid (BX p lo wr w7) := Lib.hid (by rw [← hw7, ← hw6]; exact (HBB5.out.set 2 _).set 1 _)
            have HE7 : Hid (Pcs lo w7 v5 (em ++ rdE x u a T)) := Lib.hid (by rw [← hw7, ← hw6]; exact (HE5.out.setCell (a := ⟨p, 2, none⟩) _ HR5.out (by decide)).setCell (a := ⟨p, 1, none⟩) _ (by rw [hw6]; exact hR6) (by decide))
            have HR7 := Lib.hid hR7; have HK7 := Lib.hid hK7
            clear hR6 hK6 hR7 hK7
            go_wp2_with fail
            clear d0 d1 d2 h0 h1 h2 y0 y1 y2 d0' d1' d2' h0' h1' h2' hw6 hw7
            obtain ⟨w8, hw8e⟩ : ∃ w, w7.drew = w := ⟨_, rfl⟩
            have b8 : Below w7.heap.size w7 w8 := by rw [← hw8e]; exact (Below.refl _ _).drew
            have HR8 := Lib.hid (show RdC w8 p (.slice (some b) (l.length + 1) sc) uN aN from below_block b8 HR7.out)
            have HO8 : Hid (OnT tsR W w8) := Lib.hid (HO7.out.trans (OnT.of b8))
            have HBB8 : Hid (BX p lo wr w8) := Lib.hid (HBB7.out.trans (BX.of (b8.mono (Nat.le_trans (Nat.le_trans HLO.out HEND.out.2.2.2.2.2.2.2.2.size) HBB7.out.size))))
            have HE8 : Hid (Pcs lo w8 v5 (em ++ rdE x u a T)) := Lib.hid (SlA.below HE7.out b8)
            obtain ⟨d0, d1, d2, h0, h1, h2⟩ := HR8.out.cells
            obtain ⟨y0, y1, y2⟩ := (show PcC w8 gc x from below_block b8 HK7.out).cells
            clear b8
            refine wp_region_anyH (fun w => w = w8) (by kernel_rfl) ?_
            rw [hw8e]
            clear hw8e
            have SW : w8 = w8 := rfl
            refine AnyH.take (i := 0) (d := some 75) (v := ?_) (by kernel_rfl) rfl rfl HF (fun _ _ _ h => h) (.inl ⟨by rfl, ?_⟩) (by first | assumption | rfl) ?_
            rotate_left
            · intro w hS; try subst hS
              go_simp; try with_reducible rfl
            try simp only [Act.put, List.setIfInBounds_toArray, List.set_cons_zero, List.set_cons_succ]
            refine AnyH.take (i := 1) (d := some 76) (v := ?_) (by kernel_rfl) rfl rfl HF (fun _ _ _ h => h) (.inl ⟨by rfl, ?_⟩) (by first | assumption | rfl) ?_
            rotate_left
            · intro w hS; try subst hS
              go_simp; try with_reducible rfl
            try simp only [Act.put, List.setIfInBounds_toArray, List.set_cons_zero, List.set_cons_succ]
            refine AnyH.take (i := 2) (d := some 77) (v := ?_) (by kernel_rfl) rfl rfl HF (fun _ _ _ h => h) (.inl ⟨by rfl, ?_⟩) (by first | assumption | rfl) ?_
            rotate_left
            · intro w hS; try subst hS
              go_simp; try with_reducible rfl
            try simp only [Act.put, List.setIfInBounds_toArray, List.set_cons_zero, List.set_cons_succ]
            refine AnyH.take (i := 3) (d := some 78) (v := ?_) (by kernel_rfl) rfl rfl HF (fun _ _ _ h => h) (.inl ⟨by rfl, ?_⟩) (by first | assumption | rfl) ?_
            rotate_left
            · intro w hS; try subst hS
              go_simp; try with_reducible rfl
            try simp only [Act.put, List.setIfInBounds_toArray, List.set_cons_zero, List.set_cons_succ]
            refine AnyH.take (i := 4) (d := some 79) (v := ?_) (by kernel_rfl) rfl rfl HF (fun _ _ _ h => h) (.inl ⟨by rfl, ?_⟩) (by first | assumption | rfl) ?_
            rotate_left
            · intro w hS; try subst hS
              go_simp; try with_reducible rfl
            try simp only [Act.put, List.setIfInBounds_toArray, List.set_cons_zero, List.set_cons_succ]
            refine AnyH.take (i := 5) (d := some 80) (v := ?_) (by kernel_rfl) rfl rfl HF (fun _ _ _ h => h) (.inl ⟨by rfl, ?_⟩) (by first | assumption | rfl) ?_
            rotate_left
            · intro w hS; try subst hS
              go_simp; try with_reducible rfl
            try simp only [Act.put, List.setIfInBounds_toArray, List.set_cons_zero, List.set_cons_succ]
            refine AnyH.take (i := 6) (d := some 81) (v := ?_) (by kernel_rfl) rfl rfl HF (fun _ _ _ h => h) (.inl ⟨by rfl, ?_⟩) (by first | assumption | rfl) ?_
            rotate_left
            · intro w hS; try subst hS
              go_simp; try with_reducible rfl
            try simp only [Act.put, List.setIfInBounds_toArray, List.set_cons_zero, List.set_cons_succ]
            refine AnyH.done (by kernel_rfl) ?_
            clear SW
            by_cases hf : uN = x.n
            · have hfb : ((uN : Int) == (x.n : Int)) = true := by rw [hf]; simp
              obtain ⟨w9, hw9⟩ : ∃ w, w8.setCell ⟨p, 0, none⟩ (.slice A' l.length c') = w := ⟨_, rfl⟩
              have hR9 : RdC w9 p (.slice A' l.length c') uN aN := by rw [← hw9]; exact HR8.out.setV _
              obtain ⟨d0', d1', d2', h0', h1', h2'⟩ := hR9.cells
              obtain ⟨w10, hw10⟩ : ∃ w, w9.setCell ⟨p, 1, none⟩ (.int .i64 0) = w := ⟨_, rfl⟩
              have hR10 : RdC w10 p (.slice A' l.length c') 0 aN := by rw [← hw10]; exact hR9.setU 0
              have HO10 : Hid (OnT tsR W w10) := Lib.hid (by rw [← hw10, ← hw9]; exact (HO8.out.trans (OnT.set (a := ⟨p, 0, none⟩) HR8.out (by decide) _)).trans (OnT.set (a := ⟨p, 1, none⟩) (by rw [hw9]; exact hR9) (by decide) _))
              have HBB10 : Hid (BX p lo wr w10) := Lib.hid (by rw [← hw10, ← hw9]; exact (HBB8.out.set 0 _).set 1 _)
              have HE10 : Hid (Pcs lo w10 v5 (em ++ rdE x u a T)) := Lib.hid (by rw [← hw10, ← hw9]; exact (HE8.out.setCell (a := ⟨p, 0, none⟩) _ HR8.out (by decide)).setCell (a := ⟨p, 1, none⟩) _ (by rw [hw9]; exact hR9) (by decide))
              have HR10 := Lib.hid hR10
              have HFF : Hid (u + rdN x u a T = x.n) := Lib.hid (by rw [HN.out, HSU.out.2.1]; exact hf)
              clear hR9 hR10 hf
              go_wp2_with fail
              clear d0 d1 d2 h0 h1 h2 y0 y1 y2 d0' d1' d2' h0' h1' h2' hw9 hw10
              go_roundw
              case rel =>
                obtain ⟨e1, e2, e3, e4, e5, e6, e7, e8, e9⟩ := HEND.out
                obtain ⟨z1, z2, z3, z4⟩ := readF_full (l := l) haT HFF.out
                rw [z1] at e4; rw [z2] at e5; rw [z3] at e6; rw [z4] at e7
                rw [HN.out, HSU.out.1] at e4 e5 e6 e7
                exact ⟨em ++ rdE x u a T, l, 0, aN, A', c', HE10.out, HR10.out, fun w hw => HDR.out w (e3 w ((HBB10.out.mono HL2.out).trans hw)), HUL.out.1, HUL.out.2.1, by omega, by rw [List.append_assoc]; exact e4, e5, e6, e7, HO10.out, e9.trans HBB10.out⟩
              case measure =>
                rw [HMS.out, rdM_at HR10.out]
                simp only [List.length_cons]
                rw [if_pos hab]
                split <;> omega
            · have hfb : ((uN : Int) == (x.n : Int)) = false := beq_eq_false_iff_ne.2 (by omega)
              have HFF : Hid (u + rdN x u a T ≠ x.n) := Lib.hid (by rw [HN.out, HSU.out.2.1]; exact hf)
              clear hf
              go_wp2_with fail
              clear d0 d1 d2 h0 h1 h2 y0 y1 y2
              go_roundw
              case rel =>
                obtain ⟨e1, e2, e3, e4, e5, e6, e7, e8, e9⟩ := HEND.out
                obtain ⟨z1, z2, z3⟩ := readF_part (l := l) haT HFF.out (by have := HSU.out; omega)
                rw [z2] at e4 e5 e6 e7
                rw [HN.out, HSU.out.1] at z1
                rw [HN.out, HSU.out.1, HSU.out.2.1] at z3 e6 e7 e5 e4
                exact ⟨em ++ rdE x u a T, x :: l, uN, aN, some b, sc, HE8.out, HR8.out, fun w hw => e3 w ((HBB8.out.mono HL2.out).trans hw), show uN ≤ x.n by omega, HUL.out.2.2, by omega, by rw [z3, List.append_nil]; exact e4, by rw [z3]; exact e5, by rw [z3]; exact e6, by rw [z3]; exact e7, HO8.out, e9.trans HBB8.out⟩
              case measure =>
                have z1 := (readF_part (l := l) haT HFF.out (by have := HSU.out; omega)).1
                rw [HN.out, HSU.out.1] at z1
                rw [HMS.out, rdM_at HR8.out]
                simp only [List.length_cons]
                have := HSU.out
                rw [if_pos hab, if_neg (by omega)]
                omega
          · have hn1 : ¬ (nu : Int) > 0 := by omega
            have HO5 : Hid (OnT tsR W w3) := Lib.hid (HEND.out.2.2.2.2.2.2.2.1.trans (OnT.of HB3.out))
            have HBB5 : Hid (BX p lo wr w3) := Lib.hid (BX.of (HB3.out.mono (Nat.le_trans HLO.out HEND.out.2.2.2.2.2.2.2.2.size)))
            have HE5 : Hid (Pcs lo w3 (.slice toa ton toc) (em ++ rdE x u a T)) := Lib.hid (by unfold rdE; rw [HN.out, if_neg hn0, List.append_nil]; exact SlA.below HEND.out.1 HB3.out)
            have HR5 := HR3; have HK5 := HK3
            obtain ⟨w6, hw6⟩ : ∃ w, w3.setCell ⟨p, 2, none⟩ (.int .i64 (aN : Int)) = w := ⟨_, rfl⟩
            have hR6 : RdC w6 p (.slice (some b) (l.length + 1) sc) u aN := by rw [← hw6]; exact HR5.out.setA aN
            have hK6 : PcC w6 gc x := by rw [← hw6]; exact HK5.out.set HGC.out.1 _
            obtain ⟨d0', d1', d2', h0', h1', h2'⟩ := hR6.cells
            obtain ⟨w7, hw7⟩ : ∃ w, w6.setCell ⟨p, 1, none⟩ (.int .i64 (uN : Int)) = w := ⟨_, rfl⟩
            have hR7 : RdC w7 p (.slice (some b) (l.length + 1) sc) uN aN := by rw [← hw7]; exact hR6.setU uN
            have hK7 : PcC w7 gc x := by rw [← hw7]; exact hK6.set HGC.out.1 _
            have HO7 : Hid (OnT tsR W w7) := Lib.hid (by rw [← hw7, ← hw6]; exact (HO5.out.trans (OnT.set (a := ⟨p, 2, none⟩) HR5.out (by decide) _)).trans (OnT.set (a := ⟨p, 1, none⟩) (by rw [hw6]; exact hR6) (by decide) _))
            have HBB7 : Hid (BX p lo wr w7) := Lib.hid (by rw [← hw7, ← hw6]; exact (HBB5.out.set 2 _).set 1 _)
            have HE7 : Hid (Pcs lo w7 (.slice toa ton toc) (em ++ rdE x u a T)) := Lib.hid (by rw [← hw7, ← hw6]; exact (HE5.out.setCell (a := ⟨p, 2, none⟩) _ HR5.out (by decide)).setCell (a := ⟨p, 1, none⟩) _ (by rw [hw6]; exact hR6) (by decide))
            have HR7 := Lib.hid hR7; have HK7 := Lib.hid hK7
            clear hR6 hK6 hR7 hK7
            go_wp2_with fail
            clear d0 d1 d2 h0 h1 h2 y0 y1 y2 d0' d1' d2' h0' h1' h2' hw6 hw7
            obtain ⟨w8, hw8e⟩ : ∃ w, w7.drew = w := ⟨_, rfl⟩
            have b8 : Below w7.heap.size w7 w8 := by rw [← hw8e]; exact (Below.refl _ _).drew
            have HR8 := Lib.hid (show RdC w8 p (.slice (some b) (l.length + 1) sc) uN aN from below_block b8 HR7.out)
            have HO8 : Hid (OnT tsR W w8) := Lib.hid (HO7.out.trans (OnT.of b8))
            have HBB8 : Hid (BX p lo wr w8) := Lib.hid (HBB7.out.trans (BX.of (b8.mono (Nat.le_trans (Nat.le_trans HLO.out HEND.out.2.2.2.2.2.2.2.2.size) HBB7.out.size))))
            have HE8 : Hid (Pcs lo w8 (.slice toa ton toc) (em ++ rdE x u a T)) := Lib.hid (SlA.below HE7.out b8)
            obtain ⟨d0, d1, d2, h0, h1, h2⟩ := HR8.out.cells
            obtain ⟨y0, y1, y2⟩ := (show PcC w8 gc x from below_block b8 HK7.out).cells
            clear b8
            refine wp_region_anyH (fun w => w = w8) (by kernel_rfl) ?_
            rw [hw8e]
            clear hw8e
            have SW : w8 = w8 := rfl
            refine AnyH.take (i := 0) (d := some 75) (v := ?_) (by kernel_rfl) rfl rfl HF (fun _ _ _ h => h) (.inl ⟨by rfl, ?_⟩) (by first | assumption | rfl) ?_
            rotate_left
            · intro w hS; try subst hS
              go_simp; try with_reducible rfl
            try simp only [Act.put, List.setIfInBounds_toArray, List.set_cons_zero, List.set_cons_succ]
            refine AnyH.take (i := 1) (d := some 76) (v := ?_) (by kernel_rfl) rfl rfl HF (fun _ _ _ h => h) (.inl ⟨by rfl, ?_⟩) (by first | assumption | rfl) ?_
            rotate_left
            · intro w hS; try subst hS
              go_simp; try with_reducible rfl
            try simp only [Act.put, List.setIfInBounds_toArray, List.set_cons_zero, List.set_cons_succ]
            refine AnyH.take (i := 2) (d := some 77) (v := ?_) (by kernel_rfl) rfl rfl HF (fun _ _ _ h => h) (.inl ⟨by rfl, ?_⟩) (by first | assumption | rfl) ?_
            rotate_left
            · intro w hS; try subst hS
              go_simp; try with_reducible rfl
            try simp only [Act.put, List.setIfInBounds_toArray, List.set_cons_zero, List.set_cons_succ]
            refine AnyH.take (i := 3) (d := some 78) (v := ?_) (by kernel_rfl) rfl rfl HF (fun _ _ _ h => h) (.inl ⟨by rfl, ?_⟩) (by first | assumption | rfl) ?_
            rotate_left
            · intro w hS; try subst hS
              go_simp; try with_reducible rfl
            try simp only [Act.put, List.setIfInBounds_toArray, List.set_cons_zero, List.set_cons_succ]
            refine AnyH.take (i := 4) (d := some 79) (v := ?_) (by kernel_rfl) rfl rfl HF (fun _ _ _ h => h) (.inl ⟨by rfl, ?_⟩) (by first | assumption | rfl) ?_
            rotate_left
            · intro w hS; try subst hS
              go_simp; try with_reducible rfl
            try simp only [Act.put, List.setIfInBounds_toArray, List.set_cons_zero, List.set_cons_succ]
            refine AnyH.take (i := 5) (d := some 80) (v := ?_) (by kernel_rfl) rfl rfl HF (fun _ _ _ h => h) (.inl ⟨by rfl, ?_⟩) (by first | assumption | rfl) ?_
            rotate_left
            · intro w hS; try subst hS
              go_simp; try with_reducible rfl
            try simp only [Act.put, List.setIfInBounds_toArray, List.set_cons_zero, List.set_cons_succ]
            refine AnyH.take (i := 6) (d := some 81) (v := ?_) (by kernel_rfl) rfl rfl HF (fun _ _ _ h => h) (.inl ⟨by rfl, ?_⟩) (by first | assumption | rfl) ?_
            rotate_left
            · intro w hS; try subst hS
              go_simp; try with_reducible rfl
            try simp only [Act.put, List.setIfInBounds_toArray, List.set_cons_zero, List.set_cons_succ]
            refine AnyH.done (by kernel_rfl) ?_
            clear SW
            by_cases hf : uN = x.n
            · have hfb : ((uN : Int) == (x.n : Int)) = true := by rw [hf]; simp
              obtain ⟨w9, hw9⟩ : ∃ w, w8.setCell ⟨p, 0, none⟩ (.slice A' l.length c') = w := ⟨_, rfl⟩
              have hR9 : RdC w9 p (.slice A' l.length c') uN aN := by rw [← hw9]; exact HR8.out.setV _
              obtain ⟨d0', d1', d2', h0', h1', h2'⟩ := hR9.cells
              obtain ⟨w10, hw10⟩ : ∃ w, w9.setCell ⟨p, 1, none⟩ (.int .i64 0) = w := ⟨_, rfl⟩
              have hR10 : RdC w10 p (.slice A' l.length c') 0 aN := by rw [← hw10]; exact hR9.setU 0
              have HO10 : Hid (OnT tsR W w10) := Lib.hid (by rw [← hw10, ← hw9]; exact (HO8.out.trans (OnT.set (a := ⟨p, 0, none⟩) HR8.out (by decide) _)).trans (OnT.set (a := ⟨p, 1, none⟩) (by rw [hw9]; exact hR9) (by decide) _))
              have HBB10 : Hid (BX p lo wr w10) := Lib.hid (by rw [← hw10, ← hw9]; exact (HBB8.out.set 0 _).set 1 _)
              have HE10 : Hid (Pcs lo w10 (.slice toa ton toc) (em ++ rdE x u a T)) := Lib.hid (by rw [← hw10, ← hw9]; exact (HE8.out.setCell (a := ⟨p, 0, none⟩) _ HR8.out (by decide)).setCell (a := ⟨p, 1, none⟩) _ (by rw [hw9]; exact hR9) (by decide))
              have HR10 := Lib.hid hR10
              have HFF : Hid (u + rdN x u a T = x.n) := Lib.hid (by rw [HN.out, HSU.out.2.1]; exact hf)
              clear hR9 hR10 hf
              go_wp2_with fail
              clear d0 d1 d2 h0 h1 h2 y0 y1 y2 d0' d1' d2' h0' h1' h2' hw9 hw10
              go_roundw
              case rel =>
                obtain ⟨e1, e2, e3, e4, e5, e6, e7, e8, e9⟩ := HEND.out
                obtain ⟨z1, z2, z3, z4⟩ := readF_full (l := l) haT HFF.out
                rw [z1] at e4; rw [z2] at e5; rw [z3] at e6; rw [z4] at e7
                rw [HN.out, HSU.out.1] at e4 e5 e6 e7
                exact ⟨em ++ rdE x u a T, l, 0, aN, A', c', HE10.out, HR10.out, fun w hw => HDR.out w (e3 w ((HBB10.out.mono HL2.out).trans hw)), HUL.out.1, HUL.out.2.1, by omega, by rw [List.append_assoc]; exact e4, e5, e6, e7, HO10.out, e9.trans HBB10.out⟩
              case measure =>
                rw [HMS.out, rdM_at HR10.out]
                simp only [List.length_cons]
                rw [if_pos hab]
                split <;> omega
            · have hfb : ((uN : Int) == (x.n : Int)) = false := beq_eq_false_iff_ne.2 (by omega)
              have HFF : Hid (u + rdN x u a T ≠ x.n) := Lib.hid (by rw [HN.out, HSU.out.2.1]; exact hf)
              clear hf
              go_wp2_with fail
              clear d0 d1 d2 h0 h1 h2 y0 y1 y2
              go_roundw
              case rel =>
                obtain ⟨e1, e2, e3, e4, e5, e6, e7, e8, e9⟩ := HEND.out
                obtain ⟨z1, z2, z3⟩ := readF_part (l := l) haT HFF.out (by have := HSU.out; omega)
                rw [z2] at e4 e5 e6 e7
                rw [HN.out, HSU.out.1] at z1
                rw [HN.out, HSU.out.1, HSU.out.2.1] at z3 e6 e7 e5 e4
                exact ⟨em ++ rdE x u a T, x :: l, uN, aN, some b, sc, HE8.out, HR8.out, fun w hw => e3 w ((HBB8.out.mono HL2.out).trans hw), show uN ≤ x.n by omega, HUL.out.2.2, by omega, by rw [z3, List.append_nil]; exact e4, by rw [z3]; exact e5, by rw [z3]; exact e6, by rw [z3]; exact e7, HO8.out, e9.trans HBB8.out⟩
              case measure =>
                have z1 := (readF_part (l := l) haT HFF.out (by have := HSU.out; omega)).1
                rw [HN.out, HSU.out.1] at z1
                rw [HMS.out, rdM_at HR8.out]
                simp only [List.length_cons]
                have := HSU.out
                rw [if_pos hab, if_neg (by omega)]
                omega
      · as_aux_lemma =>
          obtain rfl : nu = N := by have := HMN.out; omega
          obtain rfl : nu = ta := hc
          have hci : ¬ (nu : Int) < (nu : Int) := by omega
          obtain ⟨w3, hw3e⟩ : ∃ w, w2.drew = w := ⟨_, rfl⟩
          have b3 : Below w2.heap.size w2 w3 := by rw [← hw3e]; exact (Below.refl _ _).drew
          have HR3 := Lib.hid (show RdC w3 p (.slice (some b) (l.length + 1) sc) u a from below_block b3 HR2.out)
          have HK3 := Lib.hid (show PcC w3 gc x from below_block b3 HKP.out)
          have HB3 := Lib.hid (Below.after HB2.out b3)
          clear d0 d1 d2 h0 h1 h2 y0 y1 y2 b3
          obtain ⟨d0, d1, d2, h0, h1, h2⟩ := HR3.out.cells
          obtain ⟨y0, y1, y2⟩ := HK3.out.cells
          refine wp_region_anyH (fun w => w = w3) (by kernel_rfl) ?_
          rw [hw3e]
          clear hw3e
          have SW : w3 = w3 := rfl
          refine AnyH.take (i := 0) (d := some 29) (v := ?_) (by kernel_rfl) rfl rfl HF (fun _ _ _ h => h) (.inl ⟨by rfl, ?_⟩) (by first | assumption | rfl) ?_
          rotate_left
          · intro w hS; try subst hS
            go_simp; try with_reducible rfl
          try simp only [Act.put, List.setIfInBounds_toArray, List.set_cons_zero, List.set_cons_succ]
          refine AnyH.take (i := 1) (d := some 30) (v := ?_) (by kernel_rfl) rfl rfl HF (fun _ _ _ h => h) (.inl ⟨by rfl, ?_⟩) (by first | assumption | rfl) ?_
          rotate_left
          · intro w hS; try subst hS
            go_simp; try with_reducible rfl
          try simp only [Act.put, List.setIfInBounds_toArray, List.set_cons_zero, List.set_cons_succ]
          refine AnyH.take (i := 2) (d := some 31) (v := ?_) (by kernel_rfl) rfl rfl HF (fun _ _ _ h => h) (.inl ⟨by rfl, ?_⟩) (by first | assumption | rfl) ?_
          rotate_left
          · intro w hS; try subst hS
            go_simp; try with_reducible rfl
          try simp only [Act.put, List.setIfInBounds_toArray, List.set_cons_zero, List.set_cons_succ]
          refine AnyH.take (i := 3) (d := some 32) (v := ?_) (by kernel_rfl) rfl rfl HF (fun _ _ _ h => h) (.inl ⟨by rfl, ?_⟩) (by first | assumption | rfl) ?_
          rotate_left
          · intro w hS; try subst hS
            go_simp; try with_reducible rfl
          try simp only [Act.put, List.setIfInBounds_toArray, List.set_cons_zero, List.set_cons_succ]
          refine AnyH.take (i := 4) (d := some 33) (v := ?_) (by kernel_rfl) rfl rfl HF (fun _ _ _ h => h) (.inl ⟨by rfl, ?_⟩) (by first | assumption | rfl) ?_
          rotate_left
          · intro w hS; try subst hS
            go_simp; try with_reducible rfl
          try simp only [Act.put, List.setIfInBounds_toArray, List.set_cons_zero, List.set_cons_succ]
          refine AnyH.take (i := 5) (d := some 34) (v := ?_) (by kernel_rfl) rfl rfl HF (fun _ _ _ h => h) (.inl ⟨by rfl, ?_⟩) (by first | assumption | rfl) ?_
          rotate_left
          · intro w hS; try subst hS
            go_simp; try with_reducible rfl
          try simp only [Act.put, List.setIfInBounds_toArray, List.set_cons_zero, List.set_cons_succ]
          refine AnyH.take (i := 6) (d := some 35) (v := ?_) (by kernel_rfl) rfl rfl HF (fun _ _ _ h => h) (.inl ⟨by rfl, ?_⟩) (by first | assumption | rfl) ?_
          rotate_left
          · intro w hS; try subst hS
            go_simp; try with_reducible rfl
          try simp only [Act.put, List.setIfInBounds_toArray, List.set_cons_zero, List.set_cons_succ]
          refine AnyH.take (i := 7) (d := some 36) (v := ?_) (by kernel_rfl) rfl rfl HF (fun _ _ _ h => h) (.inl ⟨by rfl, ?_⟩) (by first | assumption | rfl) ?_
          rotate_left
          · intro w hS; try subst hS
            go_simp; try with_reducible rfl
          try simp only [Act.put, List.setIfInBounds_toArray, List.set_cons_zero, List.set_cons_succ]
          refine AnyH.take (i := 8) (d := some 37) (v := ?_) (by kernel_rfl) rfl rfl HF (fun _ _ _ h => h) (.inl ⟨by rfl, ?_⟩) (by first | assumption | rfl) ?_
          rotate_left
          · intro w hS; try subst hS
            go_simp; try with_reducible rfl
          try simp only [Act.put, List.setIfInBounds_toArray, List.set_cons_zero, List.set_cons_succ]
          refine AnyH.take (i := 9) (d := some 38) (v := ?_) (by kernel_rfl) rfl rfl HF (fun _ _ _ h => h) (.inl ⟨by rfl, ?_⟩) (by first | assumption | rfl) ?_
          rotate_left
          · intro w hS; try subst hS
            go_simp; try with_reducible rfl
          try simp only [Act.put, List.setIfInBounds_toArray, List.set_cons_zero, List.set_cons_succ]
          refine AnyH.take (i := 10) (d := some 39) (v := ?_) (by kernel_rfl) rfl rfl HF (fun _ _ _ h => h) (.inl ⟨by rfl, ?_⟩) (by first | assumption | rfl) ?_
          rotate_left
          · intro w hS; try subst hS
            go_simp; try with_reducible rfl
          try simp only [Act.put, List.setIfInBounds_toArray, List.set_cons_zero, List.set_cons_succ]
          refine AnyH.take (i := 11) (d := some 40) (v := ?_) (by kernel_rfl) rfl rfl HF (fun _ _ _ h => h) (.inl ⟨by rfl, ?_⟩) (by first | assumption | rfl) ?_
          rotate_left
          · intro w hS; try subst hS
            go_simp; try with_reducible rfl
          try simp only [Act.put, List.setIfInBounds_toArray, List.set_cons_zero, List.set_cons_succ]
          refine AnyH.take (i := 12) (d := some 41) (v := ?_) (by kernel_rfl) rfl rfl HF (fun _ _ _ h => h) (.inl ⟨by rfl, ?_⟩) (by first | assumption | rfl) ?_
          rotate_left
          · intro w hS; try subst hS
            go_simp; try with_reducible rfl
          try simp only [Act.put, List.setIfInBounds_toArray, List.set_cons_zero, List.set_cons_succ]
          refine AnyH.take (i := 13) (d := some 42) (v := ?_) (by kernel_rfl) rfl rfl HF (fun _ _ _ h => h) (.inl ⟨by rfl, ?_⟩) (by first | assumption | rfl) ?_
          rotate_left
          · intro w hS; try subst hS
            go_simp; try with_reducible rfl
          try simp only [Act.put, List.setIfInBounds_toArray, List.set_cons_zero, List.set_cons_succ]
          refine AnyH.take (i := 14) (d := some 8) (v := ?_) (by kernel_rfl) rfl rfl HF (fun _ _ _ h => h) (.inl ⟨by rfl, ?_⟩) (by first | assumption | rfl) ?_
          rotate_left
          · intro w hS; try subst hS
            go_simp; try with_reducible rfl
          try simp only [Act.put, List.setIfInBounds_toArray, List.set_cons_zero, List.set_cons_succ]
          refine AnyH.done (by kernel_rfl) ?_
          clear SW
          by_cases hn0 : 0 < nu
          · have hn1 : (nu : Int) > 0 := by omega
            go_wp2_with fail
            obtain ⟨w4, hw4e⟩ : ∃ w, w3.drew = w := ⟨_, rfl⟩
            have b4 : Below w3.heap.size w3 w4 := by rw [← hw4e]; exact (Below.refl _ _).drew
            have hR4 : RdC w4 p (.slice (some b) (l.length + 1) sc) u a := below_block b4 HR3.out
            have hK4 : PcC w4 gc x := below_block b4 HK3.out
            have HB4 := Lib.hid (Below.after HB3.out b4)
            have hem4 : Pcs lo w4 (.slice toa ton toc) em := SlA.below HEND.out.1 HB4.out
            have hlo4 : lo ≤ w4.heap.size := Nat.le_trans HLO.out (Nat.le_trans HEND.out.2.2.2.2.2.2.2.2.size HB4.out.size)
            have hlm : em.length ≤ 20001 := by
              have h1 := HEND.out.2.2.2.1
              have h2 := congrArg List.length h1
              rw [List.length_append, List.length_append] at h2
              have := HSP.out; have := HLN.out; omega
            obtain ⟨v5, w5, hrun, hS5, hg5, hb5, -⟩ := run_app1F (P := Try.prog) elemPc encPc_len 139 hem4 ⟨x.t, fu, nu⟩ 1 (cs := #[.int .i64 (x.t : Int), .int .i64 (fu : Int), .int .i64 (nu : Int)]) rfl (encPc_one _) (by omega) hlo4
            have hal : Below w4.heap.size w4 (w4.alloc (.cells #[.int .i64 (x.t : Int), .int .i64 (fu : Int), .int .i64 (nu : Int)] 138)) := (Below.refl _ _).alloc (Nat.le_refl _) _
            have hR5 : RdC w5 p (.slice (some b) (l.length + 1) sc) u a := app_other hem4 hg5 hR4 (by decide)
            have hgc4 : gc < w4.heap.size := (Array.getElem?_eq_some_iff.1 hK4).1
            have hK5 : PcC w5 gc x := by
              unfold PcC
              rw [hg5.block gc (by simp; omega) (fun e => absurd (HGC.out.2 _ e.symm) (Nat.lt_irrefl _)), Below.heap_alloc _ _ _ hgc4]
              exact hK4
            have HO5 : Hid (OnT tsR W w5) := Lib.hid ((HEND.out.2.2.2.2.2.2.2.1.trans (OnT.of HB4.out)).trans (OnT.own hem4 hal hg5 (by decide)))
            have HBB5 : Hid (BX p lo wr w5) := Lib.hid (BX.of ((HB4.out.mono (Nat.le_trans HLO.out HEND.out.2.2.2.2.2.2.2.2.size)).trans hb5))
            have HE5 : Hid (Pcs lo w5 v5 (em ++ rdE x u a T)) := Lib.hid (by unfold rdE; rw [HN.out, if_pos hn0, HSU.out.2.2]; exact hS5)
            have HR5 := Lib.hid hR5; have HK5 := Lib.hid hK5
            have S4 : RdC w4 p (.slice (some b) (l.length + 1) sc) u a ∧ PcC w4 gc x := ⟨hR4, hK4⟩
            have HS4 := Lib.hid (show RdC (w4.alloc (.cells #[.int .i64 (x.t : Int), .int .i64 (fu : Int), .int .i64 (nu : Int)] 138)) p (.slice (some b) (l.length + 1) sc) u a ∧ PcC (w4.alloc (.cells #[.int .i64 (x.t : Int), .int .i64 (fu : Int), .int .i64 (nu : Int)] 138)) gc x from ⟨below_block hal hR4, below_block hal hK4⟩)
            have S5 : RdC w5 p (.slice (some b) (l.length + 1) sc) u a ∧ PcC w5 gc x := ⟨hR5, hK5⟩
            have k0 : ∀ w, (RdC w p (.slice (some b) (l.length + 1) sc) u a ∧ PcC w gc x) → w.cell? ⟨p, 1, none⟩ = some (.int .i64 (u : Int)) := fun w h => h.1.cells.2.1
            have k1 : ∀ w, (RdC w p (.slice (some b) (l.length + 1) sc) u a ∧ PcC w gc x) → w.cell? ⟨gc, 0, none⟩ = some (.int .i64 (x.t : Int)) := fun w h => h.2.cells.1
            have k2 : ∀ w, (RdC w p (.slice (some b) (l.length + 1) sc) u a ∧ PcC w gc x) → w.cell? ⟨gc, 1, none⟩ = some (.int .i64 (x.f : Int)) := fun w h => h.2.cells.2.1
            clear d0 d1 d2 h0 h1 h2 y0 y1 y2 b4 hR4 hK4 hem4 hlo4 hlm hS5 hg5 hb5 hal hR5 hgc4 hK5
            refine wp_region_anyH (fun w => RdC w p (.slice (some b) (l.length + 1) sc) u a ∧ PcC w gc x) (by kernel_rfl) ?_
            rw [hw4e]
            clear hw4e
            refine AnyH.take (i := 0) (d := some 45) (v := ?_) (by kernel_rfl) rfl rfl HF (fun _ _ _ h => h) (.inl ⟨by rfl, ?_⟩) (by first | assumption | rfl) ?_
            rotate_left
            · intro w hS; try subst hS
              go_simp; try with_reducible rfl
            try simp only [Act.put, List.setIfInBounds_toArray, List.set_cons_zero, List.set_cons_succ]
            refine AnyH.take (i := 1) (d := some 46) (v := ?_) (by kernel_rfl) rfl rfl HF (fun _ _ _ h => h) (.inl ⟨by rfl, ?_⟩) (by first | assumption | rfl) ?_
            rotate_left
            · intro w hS; try subst hS
              go_simp; try with_reducible rfl
            try simp only [Act.put, List.setIfInBounds_toArray, List.set_cons_zero, List.set_cons_succ]
            refine AnyH.take (i := 2) (d := some 47) (v := ?_) (by kernel_rfl) rfl rfl HF (fun _ _ _ h => h) (.inl ⟨by rfl, ?_⟩) (by first | assumption | rfl) ?_
            rotate_left
            · intro w hS; try subst hS
              go_simp; try with_reducible rfl
            try simp only [Act.put, List.setIfInBounds_toArray, List.set_cons_zero, List.set_cons_succ]
            refine AnyH.take (i := 3) (d := some 48) (v := ?_) (by kernel_rfl) rfl rfl HF (fun _ _ _ h => h) (.inl ⟨by rfl, ?_⟩) (by first | assumption | rfl) ?_
            rotate_left
            · intro w hS; try subst hS
              go_simp; try with_reducible rfl
            try simp only [Act.put, List.setIfInBounds_toArray, List.set_cons_zero, List.set_cons_succ]
            refine AnyH.take (i := 4) (d := some 49) (v := ?_) (by kernel_rfl) rfl rfl HF (fun _ _ _ h => h) (.inl ⟨by rfl, ?_⟩) (by first | assumption | rfl) ?_
            rotate_left
            · intro w hS; try subst hS
              go_simp; try with_reducible rfl
            try simp only [Act.put, List.setIfInBounds_toArray, List.set_cons_zero, List.set_cons_succ]
            refine AnyH.take (i := 5) (d := some 50) (v := ?_) (by kernel_rfl) rfl rfl HF (fun _ _ _ h => h) (.inl ⟨by rfl, ?_⟩) (by first | assumption | rfl) ?_
            rotate_left
            · intro w hS; try subst hS
              go_simp; try with_reducible rfl
            try simp only [Act.put, List.setIfInBounds_toArray, List.set_cons_zero, List.set_cons_succ]
            refine AnyH.take (i := 6) (d := some 51) (v := ?_) (by kernel_rfl) rfl rfl HF (fun _ _ _ h => h) (.inl ⟨by rfl, ?_⟩) (by first | assumption | rfl) ?_
            rotate_left
            · intro w hS; try subst hS
              go_simp; try with_reducible rfl
            try simp only [Act.put, List.setIfInBounds_toArray, List.set_cons_zero, List.set_cons_succ]
            refine AnyH.take (i := 7) (d := some 52) (v := ?_) (by kernel_rfl) rfl rfl HF (fun _ _ _ h => h) (.inl ⟨by rfl, ?_⟩) (by first | assumption | rfl) ?_
            rotate_left
            · intro w hS; try subst hS
              go_simp; try with_reducible rfl
            try simp only [Act.put, List.setIfInBounds_toArray, List.set_cons_zero, List.set_cons_succ]
            refine AnyH.take (i := 8) (d := some 53) (v := ?_) (by kernel_rfl) rfl rfl HF (fun _ _ _ h => h) (.inl ⟨by rfl, ?_⟩) (by first | assumption | rfl) ?_
            rotate_left
            · intro w hS; try subst hS
              go_simp; try with_reducible rfl
            try simp only [Act.put, List.setIfInBounds_toArray, List.set_cons_zero, List.set_cons_succ]
            refine AnyH.take (i := 9) (d := some 54) (v := ?_) (by kernel_rfl) rfl rfl HF (fun _ _ _ h => h) (.inl ⟨by rfl, ?_⟩) (by first | assumption | rfl) ?_
            rotate_left
            · intro w hS; try subst hS
              go_simp; try with_reducible rfl
            try simp only [Act.put, List.setIfInBounds_toArray, List.set_cons_zero, List.set_cons_succ]
            refine AnyH.take (i := 10) (d := some 55) (v := ?_) (by kernel_rfl) rfl rfl HF (fun _ _ _ h => h) (.inl ⟨by rfl, ?_⟩) (by first | assumption | rfl) ?_
            rotate_left
            · intro w hS; try subst hS
              go_simp; try with_reducible rfl
            try simp only [Act.put, List.setIfInBounds_toArray, List.set_cons_zero, List.set_cons_succ]
            refine AnyH.take (i := 11) (d := some 56) (v := ?_) (by kernel_rfl) rfl rfl HF (fun _ _ _ h => h) (.inl ⟨by rfl, ?_⟩) (by first | assumption | rfl) ?_
            rotate_left
            · intro w hS; try subst hS
              go_simp; try with_reducible rfl
            try simp only [Act.put, List.setIfInBounds_toArray, List.set_cons_zero, List.set_cons_succ]
            refine AnyH.one (i := 12) (by kernel_rfl) (by kernel_rfl) rfl HF (by rfl) (fun K hK => ?_)
            go_simp
            refine hK _ _ HS4.out ?_
            clear hK K
            try simp only [Act.put, List.setIfInBounds_toArray, List.set_cons_zero, List.set_cons_succ]
            refine AnyH.one (i := 13) (by kernel_rfl) (by kernel_rfl) rfl HF (by rfl) (fun K hK => ?_)
            simp [execOp, resolve, invoke, builtin, hrun, Result.andThen, Act.eval, Oper.uponIn]
            refine hK _ _ S5 ?_
            clear hK K hrun
            try simp only [Act.put, List.setIfInBounds_toArray, List.set_cons_zero, List.set_cons_succ]
            refine AnyH.take (i := 14) (d := some 1) (v := ?_) (by kernel_rfl) rfl rfl HF (fun _ _ _ h => h) (.inl ⟨by rfl, ?_⟩) (by first | assumption | rfl) ?_
            rotate_left
            · intro w hS; try subst hS
              go_simp; try with_reducible rfl
            try simp only [Act.put, List.setIfInBounds_toArray, List.set_cons_zero, List.set_cons_succ]
            refine AnyH.done (by kernel_rfl) ?_
            clear S4 S5 k0 k1 k2
            obtain ⟨d0, d1, d2, h0, h1, h2⟩ := HR5.out.cells
            obtain ⟨y0, y1, y2⟩ := HK5.out.cells
            obtain ⟨w6, hw6⟩ : ∃ w, w5.setCell ⟨p, 2, none⟩ (.int .i64 (aN : Int)) = w := ⟨_, rfl⟩
            have hR6 : RdC w6 p (.slice (some b) (l.length + 1) sc) u aN := by rw [← hw6]; exact HR5.out.setA aN
            have hK6 : PcC w6 gc x := by rw [← hw6]; exact HK5.out.set HGC.out.1 _
            obtain ⟨d0', d1', d2', h0', h1', h2'⟩ := hR6.cells
            obtain ⟨w7, hw7⟩ : ∃ w, w6.setCell ⟨p, 1, none⟩ (.int .i64 (uN : Int)) = w := ⟨_, rfl⟩
            have hR7 : RdC w7 p (.slice (some b) (l.length + 1) sc) uN aN := by rw [← hw7]; exact hR6.setU uN
            have hK7 : PcC w7 gc x := by rw [← hw7]; exact hK6.set HGC.out.1 _
            have HO7 : Hid (OnT tsR W w7) := Lib.hid (by rw [← hw7, ← hw6]; exact (HO5.out.trans (OnT.set (a := ⟨p, 2, none⟩) HR5.out (by decide) _)).trans (OnT.set (a := ⟨p, 1, none⟩) (by rw [hw6]; exact hR6) (by decide) _))
            have HBB7 : Hid (BX p lo wr w7) := Lib.hid (by rw [← hw7, ← hw6]; exact (HBB5.out.set 2 _).set 1 _)
            have HE7 : Hid (Pcs lo w7 v5 (em ++ rdE x u a T)) := Lib.hid (by rw [← hw7, ← hw6]; exact (HE5.out.setCell (a := ⟨p, 2, none⟩) _ HR5.out (by decide)).setCell (a := ⟨p, 1, none⟩) _ (by rw [hw6]; exact hR6) (by decide))
            have HR7 := Lib.hid hR7; have HK7 := Lib.hid hK7
            clear hR6 hK6 hR7 hK7
            go_wp2_with fail
            clear d0 d1 d2 h0 h1 h2 y0 y1 y2 d0' d1' d2' h0' h1' h2' hw6 hw7
            obtain ⟨w8, hw8e⟩ : ∃ w, w7.drew = w := ⟨_, rfl⟩
            have b8 : Below w7.heap.size w7 w8 := by rw [← hw8e]; exact (Below.refl _ _).drew
            have HR8 := Lib.hid (show RdC w8 p (.slice (some b) (l.length + 1) sc) uN aN from below_block b8 HR7.out)
            have HO8 : Hid (OnT tsR W w8) := Lib.hid (HO7.out.trans (OnT.of b8))
            have HBB8 : Hid (BX p lo wr w8) := Lib.hid (HBB7.out.trans (BX.of (b8.mono (Nat.le_trans (Nat.le_trans HLO.out HEND.out.2.2.2.2.2.2.2.2.size) HBB7.out.size))))
            have HE8 : Hid (Pcs lo w8 v5 (em ++ rdE x u a T)) := Lib.hid (SlA.below HE7.out b8)
            obtain ⟨d0, d1, d2, h0, h1, h2⟩ := HR8.out.cells
            obtain ⟨y0, y1, y2⟩ := (show PcC w8 gc x from below_block b8 HK7.out).cells
            clear b8
            refine wp_region_anyH (fun w => w = w8) (by kernel_rfl) ?_
            rw [hw8e]
            clear hw8e
            have SW : w8 = w8 := rfl
            refine AnyH.take (i := 0) (d := some 75) (v := ?_) (by kernel_rfl) rfl rfl HF (fun _ _ _ h => h) (.inl ⟨by rfl, ?_⟩) (by first | assumption | rfl) ?_
            rotate_left
            · intro w hS; try subst hS
              go_simp; try with_reducible rfl
            try simp only [Act.put, List.setIfInBounds_toArray, List.set_cons_zero, List.set_cons_succ]
            refine AnyH.take (i := 1) (d := some 76) (v := ?_) (by kernel_rfl) rfl rfl HF (fun _ _ _ h => h) (.inl ⟨by rfl, ?_⟩) (by first | assumption | rfl) ?_
            rotate_left
            · intro w hS; try subst hS
              go_simp; try with_reducible rfl
            try simp only [Act.put, List.setIfInBounds_toArray, List.set_cons_zero, List.set_cons_succ]
            refine AnyH.take (i := 2) (d := some 77) (v := ?_) (by kernel_rfl) rfl rfl HF (fun _ _ _ h => h) (.inl ⟨by rfl, ?_⟩) (by first | assumption | rfl) ?_
            rotate_left
            · intro w hS; try subst hS
              go_simp; try with_reducible rfl
            try simp only [Act.put, List.setIfInBounds_toArray, List.set_cons_zero, List.set_cons_succ]
            refine AnyH.take (i := 3) (d := some 78) (v := ?_) (by kernel_rfl) rfl rfl HF (fun _ _ _ h => h) (.inl ⟨by rfl, ?_⟩) (by first | assumption | rfl) ?_
            rotate_left
            · intro w hS; try subst hS
              go_simp; try with_reducible rfl
            try simp only [Act.put, List.setIfInBounds_toArray, List.set_cons_zero, List.set_cons_succ]
            refine AnyH.take (i := 4) (d := some 79) (v := ?_) (by kernel_rfl) rfl rfl HF (fun _ _ _ h => h) (.inl ⟨by rfl, ?_⟩) (by first | assumption | rfl) ?_
            rotate_left
            · intro w hS; try subst hS
              go_simp; try with_reducible rfl
            try simp only [Act.put, List.setIfInBounds_toArray, List.set_cons_zero, List.set_cons_succ]
            refine AnyH.take (i := 5) (d := some 80) (v := ?_) (by kernel_rfl) rfl rfl HF (fun _ _ _ h => h) (.inl ⟨by rfl, ?_⟩) (by first | assumption | rfl) ?_
            rotate_left
            · intro w hS; try subst hS
              go_simp; try with_reducible rfl
            try simp only [Act.put, List.setIfInBounds_toArray, List.set_cons_zero, List.set_cons_succ]
            refine AnyH.take (i := 6) (d := some 81) (v := ?_) (by kernel_rfl) rfl rfl HF (fun _ _ _ h => h) (.inl ⟨by rfl, ?_⟩) (by first | assumption | rfl) ?_
            rotate_left
            · intro w hS; try subst hS
              go_simp; try with_reducible rfl
            try simp only [Act.put, List.setIfInBounds_toArray, List.set_cons_zero, List.set_cons_succ]
            refine AnyH.done (by kernel_rfl) ?_
            clear SW
            by_cases hf : uN = x.n
            · have hfb : ((uN : Int) == (x.n : Int)) = true := by rw [hf]; simp
              obtain ⟨w9, hw9⟩ : ∃ w, w8.setCell ⟨p, 0, none⟩ (.slice A' l.length c') = w := ⟨_, rfl⟩
              have hR9 : RdC w9 p (.slice A' l.length c') uN aN := by rw [← hw9]; exact HR8.out.setV _
              obtain ⟨d0', d1', d2', h0', h1', h2'⟩ := hR9.cells
              obtain ⟨w10, hw10⟩ : ∃ w, w9.setCell ⟨p, 1, none⟩ (.int .i64 0) = w := ⟨_, rfl⟩
              have hR10 : RdC w10 p (.slice A' l.length c') 0 aN := by rw [← hw10]; exact hR9.setU 0
              have HO10 : Hid (OnT tsR W w10) := Lib.hid (by rw [← hw10, ← hw9]; exact (HO8.out.trans (OnT.set (a := ⟨p, 0, none⟩) HR8.out (by decide) _)).trans (OnT.set (a := ⟨p, 1, none⟩) (by rw [hw9]; exact hR9) (by decide) _))
              have HBB10 : Hid (BX p lo wr w10) := Lib.hid (by rw [← hw10, ← hw9]; exact (HBB8.out.set 0 _).set 1 _)
              have HE10 : Hid (Pcs lo w10 v5 (em ++ rdE x u a T)) := Lib.hid (by rw [← hw10, ← hw9]; exact (HE8.out.setCell (a := ⟨p, 0, none⟩) _ HR8.out (by decide)).setCell (a := ⟨p, 1, none⟩) _ (by rw [hw9]; exact hR9) (by decide))
              have HR10 := Lib.hid hR10
              have HFF : Hid (u + rdN x u a T = x.n) := Lib.hid (by rw [HN.out, HSU.out.2.1]; exact hf)
              clear hR9 hR10 hf
              go_wp2_with fail
              clear d0 d1 d2 h0 h1 h2 y0 y1 y2 d0' d1' d2' h0' h1' h2' hw9 hw10
              go_roundw
              case rel =>
                obtain ⟨e1, e2, e3, e4, e5, e6, e7, e8, e9⟩ := HEND.out
                obtain ⟨z1, z2, z3, z4⟩ := readF_full (l := l) haT HFF.out
                rw [z1] at e4; rw [z2] at e5; rw [z3] at e6; rw [z4] at e7
                rw [HN.out, HSU.out.1] at e4 e5 e6 e7
                exact ⟨em ++ rdE x u a T, l, 0, aN, A', c', HE10.out, HR10.out, fun w hw => HDR.out w (e3 w ((HBB10.out.mono HL2.out).trans hw)), HUL.out.1, HUL.out.2.1, by omega, by rw [List.append_assoc]; exact e4, e5, e6, e7, HO10.out, e9.trans HBB10.out⟩
              case measure =>
                rw [HMS.out, rdM_at HR10.out]
                simp only [List.length_cons]
                rw [if_pos hab]
                split <;> omega
            · have hfb : ((uN : Int) == (x.n : Int)) = false := beq_eq_false_iff_ne.2 (by omega)
              have HFF : Hid (u + rdN x u a T ≠ x.n) := Lib.hid (by rw [HN.out, HSU.out.2.1]; exact hf)
              clear hf
              go_wp2_with fail
              clear d0 d1 d2 h0 h1 h2 y0 y1 y2
              go_roundw
              case rel =>
                obtain ⟨e1, e2, e3, e4, e5, e6, e7, e8, e9⟩ := HEND.out
                obtain ⟨z1, z2, z3⟩ := readF_part (l := l) haT HFF.out (by have := HSU.out; omega)
                rw [z2] at e4 e5 e6 e7
                rw [HN.out, HSU.out.1] at z1
                rw [HN.out, HSU.out.1, HSU.out.2.1] at z3 e6 e7 e5 e4
                exact ⟨em ++ rdE x u a T, x :: l, uN, aN, some b, sc, HE8.out, HR8.out, fun w hw => e3 w ((HBB8.out.mono HL2.out).trans hw), show uN ≤ x.n by omega, HUL.out.2.2, by omega, by rw [z3, List.append_nil]; exact e4, by rw [z3]; exact e5, by rw [z3]; exact e6, by rw [z3]; exact e7, HO8.out, e9.trans HBB8.out⟩
              case measure =>
                have z1 := (readF_part (l := l) haT HFF.out (by have := HSU.out; omega)).1
                rw [HN.out, HSU.out.1] at z1
                rw [HMS.out, rdM_at HR8.out]
                simp only [List.length_cons]
                have := HSU.out
                rw [if_pos hab, if_neg (by omega)]
                omega
          · have hn1 : ¬ (nu : Int) > 0 := by omega
            have HO5 : Hid (OnT tsR W w3) := Lib.hid (HEND.out.2.2.2.2.2.2.2.1.trans (OnT.of HB3.out))
            have HBB5 : Hid (BX p lo wr w3) := Lib.hid (BX.of (HB3.out.mono (Nat.le_trans HLO.out HEND.out.2.2.2.2.2.2.2.2.size)))
            have HE5 : Hid (Pcs lo w3 (.slice toa ton toc) (em ++ rdE x u a T)) := Lib.hid (by unfold rdE; rw [HN.out, if_neg hn0, List.append_nil]; exact SlA.below HEND.out.1 HB3.out)
            have HR5 := HR3; have HK5 := HK3
            obtain ⟨w6, hw6⟩ : ∃ w, w3.setCell ⟨p, 2, none⟩ (.int .i64 (aN : Int)) = w := ⟨_, rfl⟩
            have hR6 : RdC w6 p (.slice (some b) (l.length + 1) sc) u aN := by rw [← hw6]; exact HR5.out.setA aN
            have hK6 : PcC w6 gc x := by rw [← hw6]; exact HK5.out.set HGC.out.1 _
            obtain ⟨d0', d1', d2', h0', h1', h2'⟩ := hR6.cells
            obtain ⟨w7, hw7⟩ : ∃ w, w6.setCell ⟨p, 1, none⟩ (.int .i64 (uN : Int)) = w := ⟨_, rfl⟩
            have hR7 : RdC w7 p (.slice (some b) (l.length + 1) sc) uN aN := by rw [← hw7]; exact hR6.setU uN
            have hK7 : PcC w7 gc x := by rw [← hw7]; exact hK6.set HGC.out.1 _
            have HO7 : Hid (OnT tsR W w7) := Lib.hid (by rw [← hw7, ← hw6]; exact (HO5.out.trans (OnT.set (a := ⟨p, 2, none⟩) HR5.out (by decide) _)).trans (OnT.set (a := ⟨p, 1, none⟩) (by rw [hw6]; exact hR6) (by decide) _))
            have HBB7 : Hid (BX p lo wr w7) := Lib.hid (by rw [← hw7, ← hw6]; exact (HBB5.out.set 2 _).set 1 _)
            have HE7 : Hid (Pcs lo w7 (.slice toa ton toc) (em ++ rdE x u a T)) := Lib.hid (by rw [← hw7, ← hw6]; exact (HE5.out.setCell (a := ⟨p, 2, none⟩) _ HR5.out (by decide)).setCell (a := ⟨p, 1, none⟩) _ (by rw [hw6]; exact hR6) (by decide))
            have HR7 := Lib.hid hR7; have HK7 := Lib.hid hK7
            clear hR6 hK6 hR7 hK7
            go_wp2_with fail
            clear d0 d1 d2 h0 h1 h2 y0 y1 y2 d0' d1' d2' h0' h1' h2' hw6 hw7
            obtain ⟨w8, hw8e⟩ : ∃ w, w7.drew = w := ⟨_, rfl⟩
            have b8 : Below w7.heap.size w7 w8 := by rw [← hw8e]; exact (Below.refl _ _).drew
            have HR8 := Lib.hid (show RdC w8 p (.slice (some b) (l.length + 1) sc) uN aN from below_block b8 HR7.out)
            have HO8 : Hid (OnT tsR W w8) := Lib.hid (HO7.out.trans (OnT.of b8))
            have HBB8 : Hid (BX p lo wr w8) := Lib.hid (HBB7.out.trans (BX.of (b8.mono (Nat.le_trans (Nat.le_trans HLO.out HEND.out.2.2.2.2.2.2.2.2.size) HBB7.out.size))))
            have HE8 : Hid (Pcs lo w8 (.slice toa ton toc) (em ++ rdE x u a T)) := Lib.hid (SlA.below HE7.out b8)
            obtain ⟨d0, d1, d2, h0, h1, h2⟩ := HR8.out.cells
            obtain ⟨y0, y1, y2⟩ := (show PcC w8 gc x from below_block b8 HK7.out).cells
            clear b8
            refine wp_region_anyH (fun w => w = w8) (by kernel_rfl) ?_
            rw [hw8e]
            clear hw8e
            have SW : w8 = w8 := rfl
            refine AnyH.take (i := 0) (d := some 75) (v := ?_) (by kernel_rfl) rfl rfl HF (fun _ _ _ h => h) (.inl ⟨by rfl, ?_⟩) (by first | assumption | rfl) ?_
            rotate_left
            · intro w hS; try subst hS
              go_simp; try with_reducible rfl
            try simp only [Act.put, List.setIfInBounds_toArray, List.set_cons_zero, List.set_cons_succ]
            refine AnyH.take (i := 1) (d := some 76) (v := ?_) (by kernel_rfl) rfl rfl HF (fun _ _ _ h => h) (.inl ⟨by rfl, ?_⟩) (by first | assumption | rfl) ?_
            rotate_left
            · intro w hS; try subst hS
              go_simp; try with_reducible rfl
            try simp only [Act.put, List.setIfInBounds_toArray, List.set_cons_zero, List.set_cons_succ]
            refine AnyH.take (i := 2) (d := some 77) (v := ?_) (by kernel_rfl) rfl rfl HF (fun _ _ _ h => h) (.inl ⟨by rfl, ?_⟩) (by first | assumption | rfl) ?_
            rotate_left
            · intro w hS; try subst hS
              go_simp; try with_reducible rfl
            try simp only [Act.put, List.setIfInBounds_toArray, List.set_cons_zero, List.set_cons_succ]
            refine AnyH.take (i := 3) (d := some 78) (v := ?_) (by kernel_rfl) rfl rfl HF (fun _ _ _ h => h) (.inl ⟨by rfl, ?_⟩) (by first | assumption | rfl) ?_
            rotate_left
            · intro w hS; try subst hS
              go_simp; try with_reducible rfl
            try simp only [Act.put, List.setIfInBounds_toArray, List.set_cons_zero, List.set_cons_succ]
            refine AnyH.take (i := 4) (d := some 79) (v := ?_) (by kernel_rfl) rfl rfl HF (fun _ _ _ h => h) (.inl ⟨by rfl, ?_⟩) (by first | assumption | rfl) ?_
            rotate_left
            · intro w hS; try subst hS
              go_simp; try with_reducible rfl
            try simp only [Act.put, List.setIfInBounds_toArray, List.set_cons_zero, List.set_cons_succ]
            refine AnyH.take (i := 5) (d := some 80) (v := ?_) (by kernel_rfl) rfl rfl HF (fun _ _ _ h => h) (.inl ⟨by rfl, ?_⟩) (by first | assumption | rfl) ?_
            rotate_left
            · intro w hS; try subst hS
              go_simp; try with_reducible rfl
            try simp only [Act.put, List.setIfInBounds_toArray, List.set_cons_zero, List.set_cons_succ]
            refine AnyH.take (i := 6) (d := some 81) (v := ?_) (by kernel_rfl) rfl rfl HF (fun _ _ _ h => h) (.inl ⟨by rfl, ?_⟩) (by first | assumption | rfl) ?_
            rotate_left
            · intro w hS; try subst hS
              go_simp; try with_reducible rfl
            try simp only [Act.put, List.setIfInBounds_toArray, List.set_cons_zero, List.set_cons_succ]
            refine AnyH.done (by kernel_rfl) ?_
            clear SW
            by_cases hf : uN = x.n
            · have hfb : ((uN : Int) == (x.n : Int)) = true := by rw [hf]; simp
              obtain ⟨w9, hw9⟩ : ∃ w, w8.setCell ⟨p, 0, none⟩ (.slice A' l.length c') = w := ⟨_, rfl⟩
              have hR9 : RdC w9 p (.slice A' l.length c') uN aN := by rw [← hw9]; exact HR8.out.setV _
              obtain ⟨d0', d1', d2', h0', h1', h2'⟩ := hR9.cells
              obtain ⟨w10, hw10⟩ : ∃ w, w9.setCell ⟨p, 1, none⟩ (.int .i64 0) = w := ⟨_, rfl⟩
              have hR10 : RdC w10 p (.slice A' l.length c') 0 aN := by rw [← hw10]; exact hR9.setU 0
              have HO10 : Hid (OnT tsR W w10) := Lib.hid (by rw [← hw10, ← hw9]; exact (HO8.out.trans (OnT.set (a := ⟨p, 0, none⟩) HR8.out (by decide) _)).trans (OnT.set (a := ⟨p, 1, none⟩) (by rw [hw9]; exact hR9) (by decide) _))
              have HBB10 : Hid (BX p lo wr w10) := Lib.hid (by rw [← hw10, ← hw9]; exact (HBB8.out.set 0 _).set 1 _)
              have HE10 : Hid (Pcs lo w10 (.slice toa ton toc) (em ++ rdE x u a T)) := Lib.hid (by rw [← hw10, ← hw9]; exact (HE8.out.setCell (a := ⟨p, 0, none⟩) _ HR8.out (by decide)).setCell (a := ⟨p, 1, none⟩) _ (by rw [hw9]; exact hR9) (by decide))
              have HR10 := Lib.hid hR10
              have HFF : Hid (u + rdN x u a T = x.n) := Lib.hid (by rw [HN.out, HSU.out.2.1]; exact hf)
              clear hR9 hR10 hf
              go_wp2_with fail
              clear d0 d1 d2 h0 h1 h2 y0 y1 y2 d0' d1' d2' h0' h1' h2' hw9 hw10
              go_roundw
              case rel =>
                obtain ⟨e1, e2, e3, e4, e5, e6, e7, e8, e9⟩ := HEND.out
                obtain ⟨z1, z2, z3, z4⟩ := readF_full (l := l) haT HFF.out
                rw [z1] at e4; rw [z2] at e5; rw [z3] at e6; rw [z4] at e7
                rw [HN.out, HSU.out.1] at e4 e5 e6 e7
                exact ⟨em ++ rdE x u a T, l, 0, aN, A', c', HE10.out, HR10.out, fun w hw => HDR.out w (e3 w ((HBB10.out.mono HL2.out).trans hw)), HUL.out.1, HUL.out.2.1, by omega, by rw [List.append_assoc]; exact e4, e5, e6, e7, HO10.out, e9.trans HBB10.out⟩
              case measure =>
                rw [HMS.out, rdM_at HR10.out]
                simp only [List.length_cons]
                rw [if_pos hab]
                split <;> omega
            · have hfb : ((uN : Int) == (x.n : Int)) = false := beq_eq_false_iff_ne.2 (by omega)
              have HFF : Hid (u + rdN x u a T ≠ x.n) := Lib.hid (by rw [HN.out, HSU.out.2.1]; exact hf)
              clear hf
              go_wp2_with fail
              clear d0 d1 d2 h0 h1 h2 y0 y1 y2
              go_roundw
              case rel =>
                obtain ⟨e1, e2, e3, e4, e5, e6, e7, e8, e9⟩ := HEND.out
                obtain ⟨z1, z2, z3⟩ := readF_part (l := l) haT HFF.out (by have := HSU.out; omega)
                rw [z2] at e4 e5 e6 e7
                rw [HN.out, HSU.out.1] at z1
                rw [HN.out, HSU.out.1, HSU.out.2.1] at z3 e6 e7 e5 e4
                exact ⟨em ++ rdE x u a T, x :: l, uN, aN, some b, sc, HE8.out, HR8.out, fun w hw => e3 w ((HBB8.out.mono HL2.out).trans hw), show uN ≤ x.n by omega, HUL.out.2.2, by omega, by rw [z3, List.append_nil]; exact e4, by rw [z3]; exact e5, by rw [z3]; exact e6, by rw [z3]; exact e7, HO8.out, e9.trans HBB8.out⟩
              case measure =>
                have z1 := (readF_part (l := l) haT HFF.out (by have := HSU.out; omega)).1
                rw [HN.out, HSU.out.1] at z1
                rw [HMS.out, rdM_at HR8.out]
                simp only [List.length_cons]
                have := HSU.out
                rw [if_pos hab, if_neg (by omega)]
                omega
      · as_aux_lemma =>
          obtain rfl : ta = N := by have := HMN.out; omega
          have hci : (ta : Int) < (nu : Int) := by omega
          obtain ⟨w3, hw3e⟩ : ∃ w, w2.drew = w := ⟨_, rfl⟩
          have b3 : Below w2.heap.size w2 w3 := by rw [← hw3e]; exact (Below.refl _ _).drew
          have HR3 := Lib.hid (show RdC w3 p (.slice (some b) (l.length + 1) sc) u a from below_block b3 HR2.out)
          have HK3 := Lib.hid (show PcC w3 gc x from below_block b3 HKP.out)
          have HB3 := Lib.hid (Below.after HB2.out b3)
          clear d0 d1 d2 h0 h1 h2 y0 y1 y2 b3
          obtain ⟨d0, d1, d2, h0, h1, h2⟩ := HR3.out.cells
          obtain ⟨y0, y1, y2⟩ := HK3.out.cells
          refine wp_region_anyH (fun w => w = w3) (by kernel_rfl) ?_
          rw [hw3e]
          clear hw3e
          have SW : w3 = w3 := rfl
          refine AnyH.take (i := 0) (d := some 29) (v := ?_) (by kernel_rfl) rfl rfl HF (fun _ _ _ h => h) (.inl ⟨by rfl, ?_⟩) (by first | assumption | rfl) ?_
          rotate_left
          · intro w hS; try subst hS
            go_simp; try with_reducible rfl
          try simp only [Act.put, List.setIfInBounds_toArray, List.set_cons_zero, List.set_cons_succ]
          refine AnyH.take (i := 1) (d := some 30) (v := ?_) (by kernel_rfl) rfl rfl HF (fun _ _ _ h => h) (.inl ⟨by rfl, ?_⟩) (by first | assumption | rfl) ?_
          rotate_left
          · intro w hS; try subst hS
            go_simp; try with_reducible rfl
          try simp only [Act.put, List.setIfInBounds_toArray, List.set_cons_zero, List.set_cons_succ]
          refine AnyH.take (i := 2) (d := some 31) (v := ?_) (by kernel_rfl) rfl rfl HF (fun _ _ _ h => h) (.inl ⟨by rfl, ?_⟩) (by first | assumption | rfl) ?_
          rotate_left
          · intro w hS; try subst hS
            go_simp; try with_reducible rfl
          try simp only [Act.put, List.setIfInBounds_toArray, List.set_cons_zero, List.set_cons_succ]
          refine AnyH.take (i := 3) (d := some 32) (v := ?_) (by kernel_rfl) rfl rfl HF (fun _ _ _ h => h) (.inl ⟨by rfl, ?_⟩) (by first | assumption | rfl) ?_
          rotate_left
          · intro w hS; try subst hS
            go_simp; try with_reducible rfl
          try simp only [Act.put, List.setIfInBounds_toArray, List.set_cons_zero, List.set_cons_succ]
          refine AnyH.take (i := 4) (d := some 33) (v := ?_) (by kernel_rfl) rfl rfl HF (fun _ _ _ h => h) (.inl ⟨by rfl, ?_⟩) (by first | assumption | rfl) ?_
          rotate_left
          · intro w hS; try subst hS
            go_simp; try with_reducible rfl
          try simp only [Act.put, List.setIfInBounds_toArray, List.set_cons_zero, List.set_cons_succ]
          refine AnyH.take (i := 5) (d := some 34) (v := ?_) (by kernel_rfl) rfl rfl HF (fun _ _ _ h => h) (.inl ⟨by rfl, ?_⟩) (by first | assumption | rfl) ?_
          rotate_left
          · intro w hS; try subst hS
            go_simp; try with_reducible rfl
          try simp only [Act.put, List.setIfInBounds_toArray, List.set_cons_zero, List.set_cons_succ]
          refine AnyH.take (i := 6) (d := some 35) (v := ?_) (by kernel_rfl) rfl rfl HF (fun _ _ _ h => h) (.inl ⟨by rfl, ?_⟩) (by first | assumption | rfl) ?_
          rotate_left
          · intro w hS; try subst hS
            go_simp; try with_reducible rfl
          try simp only [Act.put, List.setIfInBounds_toArray, List.set_cons_zero, List.set_cons_succ]
          refine AnyH.take (i := 7) (d := some 36) (v := ?_) (by kernel_rfl) rfl rfl HF (fun _ _ _ h => h) (.inl ⟨by rfl, ?_⟩) (by first | assumption | rfl) ?_
          rotate_left
          · intro w hS; try subst hS
            go_simp; try with_reducible rfl
          try simp only [Act.put, List.setIfInBounds_toArray, List.set_cons_zero, List.set_cons_succ]
          refine AnyH.take (i := 8) (d := some 37) (v := ?_) (by kernel_rfl) rfl rfl HF (fun _ _ _ h => h) (.inl ⟨by rfl, ?_⟩) (by first | assumption | rfl) ?_
          rotate_left
          · intro w hS; try subst hS
            go_simp; try with_reducible rfl
          try simp only [Act.put, List.setIfInBounds_toArray, List.set_cons_zero, List.set_cons_succ]
          refine AnyH.take (i := 9) (d := some 38) (v := ?_) (by kernel_rfl) rfl rfl HF (fun _ _ _ h => h) (.inl ⟨by rfl, ?_⟩) (by first | assumption | rfl) ?_
          rotate_left
          · intro w hS; try subst hS
            go_simp; try with_reducible rfl
          try simp only [Act.put, List.setIfInBounds_toArray, List.set_cons_zero, List.set_cons_succ]
          refine AnyH.take (i := 10) (d := some 39) (v := ?_) (by kernel_rfl) rfl rfl HF (fun _ _ _ h => h) (.inl ⟨by rfl, ?_⟩) (by first | assumption | rfl) ?_
          rotate_left
          · intro w hS; try subst hS
            go_simp; try with_reducible rfl
          try simp only [Act.put, List.setIfInBounds_toArray, List.set_cons_zero, List.set_cons_succ]
          refine AnyH.take (i := 11) (d := some 40) (v := ?_) (by kernel_rfl) rfl rfl HF (fun _ _ _ h => h) (.inl ⟨by rfl, ?_⟩) (by first | assumption | rfl) ?_
          rotate_left
          · intro w hS; try subst hS
            go_simp; try with_reducible rfl
          try simp only [Act.put, List.setIfInBounds_toArray, List.set_cons_zero, List.set_cons_succ]
          refine AnyH.take (i := 12) (d := some 41) (v := ?_) (by kernel_rfl) rfl rfl HF (fun _ _ _ h => h) (.inl ⟨by rfl, ?_⟩) (by first | assumption | rfl) ?_
          rotate_left
          · intro w hS; try subst hS
            go_simp; try with_reducible rfl
          try simp only [Act.put, List.setIfInBounds_toArray, List.set_cons_zero, List.set_cons_succ]
          refine AnyH.take (i := 13) (d := some 42) (v := ?_) (by kernel_rfl) rfl rfl HF (fun _ _ _ h => h) (.inl ⟨by rfl, ?_⟩) (by first | assumption | rfl) ?_
          rotate_left
          · intro w hS; try subst hS
            go_simp; try with_reducible rfl
          try simp only [Act.put, List.setIfInBounds_toArray, List.set_cons_zero, List.set_cons_succ]
          refine AnyH.take (i := 14) (d := some 8) (v := ?_) (by kernel_rfl) rfl rfl HF (fun _ _ _ h => h) (.inl ⟨by rfl, ?_⟩) (by first | assumption | rfl) ?_
          rotate_left
          · intro w hS; try subst hS
            go_simp; try with_reducible rfl
          try simp only [Act.put, List.setIfInBounds_toArray, List.set_cons_zero, List.set_cons_succ]
          refine AnyH.done (by kernel_rfl) ?_
          clear SW
          by_cases hn0 : 0 < ta
          · have hn1 : (ta : Int) > 0 := by omega
            go_wp2_with fail
            obtain ⟨w4, hw4e⟩ : ∃ w, w3.drew = w := ⟨_, rfl⟩
            have b4 : Below w3.heap.size w3 w4 := by rw [← hw4e]; exact (Below.refl _ _).drew
            have hR4 : RdC w4 p (.slice (some b) (l.length + 1) sc) u a := below_block b4 HR3.out
            have hK4 : PcC w4 gc x := below_block b4 HK3.out
            have HB4 := Lib.hid (Below.after HB3.out b4)
            have hem4 : Pcs lo w4 (.slice toa ton toc) em := SlA.below HEND.out.1 HB4.out
            have hlo4 : lo ≤ w4.heap.size := Nat.le_trans HLO.out (Nat.le_trans HEND.out.2.2.2.2.2.2.2.2.size HB4.out.size)
            have hlm : em.length ≤ 20001 := by
              have h1 := HEND.out.2.2.2.1
              have h2 := congrArg List.length h1
              rw [List.length_append, List.length_append] at h2
              have := HSP.out; have := HLN.out; omega
            obtain ⟨v5, w5, hrun, hS5, hg5, hb5, -⟩ := run_app1F (P := Try.prog) elemPc encPc_len 139 hem4 ⟨x.t, fu, ta⟩ 1 (cs := #[.int .i64 (x.t : Int), .int .i64 (fu : Int), .int .i64 (ta : Int)]) rfl (encPc_one _) (by omega) hlo4
            have hal : Below w4.heap.size w4 (w4.alloc (.cells #[.int .i64 (x.t : Int), .int .i64 (fu : Int), .int .i64 (ta : Int)] 138)) := (Below.refl _ _).alloc (Nat.le_refl _) _
            have hR5 : RdC w5 p (.slice (some b) (l.length + 1) sc) u a := app_other hem4 hg5 hR4 (by decide)
            have hgc4 : gc < w4.heap.size := (Array.getElem?_eq_some_iff.1 hK4).1
            have hK5 : PcC w5 gc x := by
              unfold PcC
              rw [hg5.block gc (by simp; omega) (fun e => absurd (HGC.out.2 _ e.symm) (Nat.lt_irrefl _)), Below.heap_alloc _ _ _ hgc4]
              exact hK4
            have HO5 : Hid (OnT tsR W w5) := Lib.hid ((HEND.out.2.2.2.2.2.2.2.1.trans (OnT.of HB4.out)).trans (OnT.own hem4 hal hg5 (by decide)))
            have HBB5 : Hid (BX p lo wr w5) := Lib.hid (BX.of ((HB4.out.mono (Nat.le_trans HLO.out HEND.out.2.2.2.2.2.2.2.2.size)).trans hb5))
            have HE5 : Hid (Pcs lo w5 v5 (em ++ rdE x u a T)) := Lib.hid (by unfold rdE; rw [HN.out, if_pos hn0, HSU.out.2.2]; exact hS5)
            have HR5 := Lib.hid hR5; have HK5 := Lib.hid hK5
            have S4 : RdC w4 p (.slice (some b) (l.length + 1) sc) u a ∧ PcC w4 gc x := ⟨hR4, hK4⟩
            have HS4 := Lib.hid (show RdC (w4.alloc (.cells #[.int .i64 (x.t : Int), .int .i64 (fu : Int), .int .i64 (ta : Int)] 138)) p (.slice (some b) (l.length + 1) sc) u a ∧ PcC (w4.alloc (.cells #[.int .i64 (x.t : Int), .int .i64 (fu : Int), .int .i64 (ta : Int)] 138)) gc x from ⟨below_block hal hR4, below_block hal hK4⟩)
            have S5 : RdC w5 p (.slice (some b) (l.length + 1) sc) u a ∧ PcC w5 gc x := ⟨hR5, hK5⟩
            have k0 : ∀ w, (RdC w p (.slice (some b) (l.length + 1) sc) u a ∧ PcC w gc x) → w.cell? ⟨p, 1, none⟩ = some (.int .i64 (u : Int)) := fun w h => h.1.cells.2.1
            have k1 : ∀ w, (RdC w p (.slice (some b) (l.length + 1) sc) u a ∧ PcC w gc x) → w.cell? ⟨gc, 0, none⟩ = some (.int .i64 (x.t : Int)) := fun w h => h.2.cells.1
            have k2 : ∀ w, (RdC w p (.slice (some b) (l.length + 1) sc) u a ∧ PcC w gc x) → w.cell? ⟨gc, 1, none⟩ = some (.int .i64 (x.f : Int)) := fun w h => h.2.cells.2.1
            clear d0 d1 d2 h0 h1 h2 y0 y1 y2 b4 hR4 hK4 hem4 hlo4 hlm hS5 hg5 hb5 hal hR5 hgc4 hK5
            refine wp_region_anyH (fun w => RdC w p (.slice (some b) (l.length + 1) sc) u a ∧ PcC w gc x) (by kernel_rfl) ?_
            rw [hw4e]
            clear hw4e
            refine AnyH.take (i := 0) (d := some 45) (v := ?_) (by kernel_rfl) rfl rfl HF (fun _ _ _ h => h) (.inl ⟨by rfl, ?_⟩) (by first | assumption | rfl) ?_
            rotate_left
            · intro w hS; try subst hS
              go_simp; try with_reducible rfl
            try simp only [Act.put, List.setIfInBounds_toArray, List.set_cons_zero, List.set_cons_succ]
            refine AnyH.take (i := 1) (d := some 46) (v := ?_) (by kernel_rfl) rfl rfl HF (fun _ _ _ h => h) (.inl ⟨by rfl, ?_⟩) (by first | assumption | rfl) ?_
            rotate_left
            · intro w hS; try subst hS
              go_simp; try with_reducible rfl
            try simp only [Act.put, List.setIfInBounds_toArray, List.set_cons_zero, List.set_cons_succ]
            refine AnyH.take (i := 2) (d := some 47) (v := ?_) (by kernel_rfl) rfl rfl HF (fun _ _ _ h => h) (.inl ⟨by rfl, ?_⟩) (by first | assumption | rfl) ?_
            rotate_left
            · intro w hS; try subst hS
              go_simp; try with_reducible rfl
            try simp only [Act.put, List.setIfInBounds_toArray, List.set_cons_zero, List.set_cons_succ]
            refine AnyH.take (i := 3) (d := some 48) (v := ?_) (by kernel_rfl) rfl rfl HF (fun _ _ _ h => h) (.inl ⟨by rfl, ?_⟩) (by first | assumption | rfl) ?_
            rotate_left
            · intro w hS; try subst hS
              go_simp; try with_reducible rfl
            try simp only [Act.put, List.setIfInBounds_toArray, List.set_cons_zero, List.set_cons_succ]
            refine AnyH.take (i := 4) (d := some 49) (v := ?_) (by kernel_rfl) rfl rfl HF (fun _ _ _ h => h) (.inl ⟨by rfl, ?_⟩) (by first | assumption | rfl) ?_
            rotate_left
            · intro w hS; try subst hS
              go_simp; try with_reducible rfl
            try simp only [Act.put, List.setIfInBounds_toArray, List.set_cons_zero, List.set_cons_succ]
            refine AnyH.take (i := 5) (d := some 50) (v := ?_) (by kernel_rfl) rfl rfl HF (fun _ _ _ h => h) (.inl ⟨by rfl, ?_⟩) (by first | assumption | rfl) ?_
            rotate_left
            · intro w hS; try subst hS
              go_simp; try with_reducible rfl
            try simp only [Act.put, List.setIfInBounds_toArray, List.set_cons_zero, List.set_cons_succ]
            refine AnyH.take (i := 6) (d := some 51) (v := ?_) (by kernel_rfl) rfl rfl HF (fun _ _ _ h => h) (.inl ⟨by rfl, ?_⟩) (by first | assumption | rfl) ?_
            rotate_left
            · intro w hS; try subst hS
              go_simp; try with_reducible rfl
            try simp only [Act.put, List.setIfInBounds_toArray, List.set_cons_zero, List.set_cons_succ]
            refine AnyH.take (i := 7) (d := some 52) (v := ?_) (by kernel_rfl) rfl rfl HF (fun _ _ _ h => h) (.inl ⟨by rfl, ?_⟩) (by first | assumption | rfl) ?_
            rotate_left
            · intro w hS; try subst hS
              go_simp; try with_reducible rfl
            try simp only [Act.put, List.setIfInBounds_toArray, List.set_cons_zero, List.set_cons_succ]
            refine AnyH.take (i := 8) (d := some 53) (v := ?_) (by kernel_rfl) rfl rfl HF (fun _ _ _ h => h) (.inl ⟨by rfl, ?_⟩) (by first | assumption | rfl) ?_
            rotate_left
            · intro w hS; try subst hS
              go_simp; try with_reducible rfl
            try simp only [Act.put, List.setIfInBounds_toArray, List.set_cons_zero, List.set_cons_succ]
            refine AnyH.take (i := 9) (d := some 54) (v := ?_) (by kernel_rfl) rfl rfl HF (fun _ _ _ h => h) (.inl ⟨by rfl, ?_⟩) (by first | assumption | rfl) ?_
            rotate_left
            · intro w hS; try subst hS
              go_simp; try with_reducible rfl
            try simp only [Act.put, List.setIfInBounds_toArray, List.set_cons_zero, List.set_cons_succ]
            refine AnyH.take (i := 10) (d := some 55) (v := ?_) (by kernel_rfl) rfl rfl HF (fun _ _ _ h => h) (.inl ⟨by rfl, ?_⟩) (by first | assumption | rfl) ?_
            rotate_left
            · intro w hS; try subst hS
              go_simp; try with_reducible rfl
            try simp only [Act.put, List.setIfInBounds_toArray, List.set_cons_zero, List.set_cons_succ]
            refine AnyH.take (i := 11) (d := some 56) (v := ?_) (by kernel_rfl) rfl rfl HF (fun _ _ _ h => h) (.inl ⟨by rfl, ?_⟩) (by first | assumption | rfl) ?_
            rotate_left
            · intro w hS; try subst hS
              go_simp; try with_reducible rfl
            try simp only [Act.put, List.setIfInBounds_toArray, List.set_cons_zero, List.set_cons_succ]
            refine AnyH.one (i := 12) (by kernel_rfl) (by kernel_rfl) rfl HF (by rfl) (fun K hK => ?_)
            go_simp
            refine hK _ _ HS4.out ?_
            clear hK K
            try simp only [Act.put, List.setIfInBounds_toArray, List.set_cons_zero, List.set_cons_succ]
            refine AnyH.one (i := 13) (by kernel_rfl) (by kernel_rfl) rfl HF (by rfl) (fun K hK => ?_)
            simp [execOp, resolve, invoke, builtin, hrun, Result.andThen, Act.eval, Oper.uponIn]
            refine hK _ _ S5 ?_
            clear hK K hrun
            try simp only [Act.put, List.setIfInBounds_toArray, List.set_cons_zero, List.set_cons_succ]
            refine AnyH.take (i := 14) (d := some 1) (v := ?_) (by kernel_rfl) rfl rfl HF (fun _ _ _ h => h) (.inl ⟨by rfl, ?_⟩) (by first | assumption | rfl) ?_
            rotate_left
            · intro w hS; try subst hS
              go_simp; try with_reducible rfl
            try simp only [Act.put, List.setIfInBounds_toArray, List.set_cons_zero, List.set_cons_succ]
            refine AnyH.done (by kernel_rfl) ?_
            clear S4 S5 k0 k1 k2
            obtain ⟨d0, d1, d2, h0, h1, h2⟩ := HR5.out.cells
            obtain ⟨y0, y1, y2⟩ := HK5.out.cells
            obtain ⟨w6, hw6⟩ : ∃ w, w5.setCell ⟨p, 2, none⟩ (.int .i64 (aN : Int)) = w := ⟨_, rfl⟩
            have hR6 : RdC w6 p (.slice (some b) (l.length + 1) sc) u aN := by rw [← hw6]; exact HR5.out.setA aN
            have hK6 : PcC w6 gc x := by rw [← hw6]; exact HK5.out.set HGC.out.1 _
            obtain ⟨d0', d1', d2', h0', h1', h2'⟩ := hR6.cells
            obtain ⟨w7, hw7⟩ : ∃ w, w6.setCell ⟨p, 1, none⟩ (.int .i64 (uN : Int)) = w := ⟨_, rfl⟩
            have hR7 : RdC w7 p (.slice (some b) (l.length + 1) sc) uN aN := by rw [← hw7]; exact hR6.setU uN
            have hK7 : PcC w7 gc x := by rw [← hw7]; exact hK6.set HGC.out.1 _
            have HO7 : Hid (OnT tsR W w7) := Lib.hid (by rw [← hw7, ← hw6]; exact (HO5.out.trans (OnT.set (a := ⟨p, 2, none⟩) HR5.out (by decide) _)).trans (OnT.set (a := ⟨p, 1, none⟩) (by rw [hw6]; exact hR6) (by decide) _))
            have HBB7 : Hid (BX p lo wr w7) := Lib.hid (by rw [← hw7, ← hw6]; exact (HBB5.out.set 2 _).set 1 _)
            have HE7 : Hid (Pcs lo w7 v5 (em ++ rdE x u a T)) := Lib.hid (by rw [← hw7, ← hw6]; exact (HE5.out.setCell (a := ⟨p, 2, none⟩) _ HR5.out (by decide)).setCell (a := ⟨p, 1, none⟩) _ (by rw [hw6]; exact hR6) (by decide))
            have HR7 := Lib.hid hR7; have HK7 := Lib.hid hK7
            clear hR6 hK6 hR7 hK7
            go_wp2_with fail
            clear d0 d1 d2 h0 h1 h2 y0 y1 y2 d0' d1' d2' h0' h1' h2' hw6 hw7
            obtain ⟨w8, hw8e⟩ : ∃ w, w7.drew = w := ⟨_, rfl⟩
            have b8 : Below w7.heap.size w7 w8 := by rw [← hw8e]; exact (Below.refl _ _).drew
            have HR8 := Lib.hid (show RdC w8 p (.slice (some b) (l.length + 1) sc) uN aN from below_block b8 HR7.out)
            have HO8 : Hid (OnT tsR W w8) := Lib.hid (HO7.out.trans (OnT.of b8))
            have HBB8 : Hid (BX p lo wr w8) := Lib.hid (HBB7.out.trans (BX.of (b8.mono (Nat.le_trans (Nat.le_trans HLO.out HEND.out.2.2.2.2.2.2.2.2.size) HBB7.out.size))))
            have HE8 : Hid (Pcs lo w8 v5 (em ++ rdE x u a T)) := Lib.hid (SlA.below HE7.out b8)
            obtain ⟨d0, d1, d2, h0, h1, h2⟩ := HR8.out.cells
            obtain ⟨y0, y1, y2⟩ := (show PcC w8 gc x from below_block b8 HK7.out).cells
            clear b8
            refine wp_region_anyH (fun w => w = w8) (by kernel_rfl) ?_
            rw [hw8e]
            clear hw8e
            have SW : w8 = w8 := rfl
            refine AnyH.take (i := 0) (d := some 75) (v := ?_) (by kernel_rfl) rfl rfl HF (fun _ _ _ h => h) (.inl ⟨by rfl, ?_⟩) (by first | assumption | rfl) ?_
            rotate_left
            · intro w hS; try subst hS
              go_simp; try with_reducible rfl
            try simp only [Act.put, List.setIfInBounds_toArray, List.set_cons_zero, List.set_cons_succ]
            refine AnyH.take (i := 1) (d := some 76) (v := ?_) (by kernel_rfl) rfl rfl HF (fun _ _ _ h => h) (.inl ⟨by rfl, ?_⟩) (by first | assumption | rfl) ?_
            rotate_left
            · intro w hS; try subst hS
              go_simp; try with_reducible rfl
            try simp only [Act.put, List.setIfInBounds_toArray, List.set_cons_zero, List.set_cons_succ]
            refine AnyH.take (i := 2) (d := some 77) (v := ?_) (by kernel_rfl) rfl rfl HF (fun _ _ _ h => h) (.inl ⟨by rfl, ?_⟩) (by first | assumption | rfl) ?_
            rotate_left
            · intro w hS; try subst hS
              go_simp; try with_reducible rfl
            try simp only [Act.put, List.setIfInBounds_toArray, List.set_cons_zero, List.set_cons_succ]
            refine AnyH.take (i := 3) (d := some 78) (v := ?_) (by kernel_rfl) rfl rfl HF (fun _ _ _ h => h) (.inl ⟨by rfl, ?_⟩) (by first | assumption | rfl) ?_
            rotate_left
            · intro w hS; try subst hS
              go_simp; try with_reducible rfl
            try simp only [Act.put, List.setIfInBounds_toArray, List.set_cons_zero, List.set_cons_succ]
            refine AnyH.take (i := 4) (d := some 79) (v := ?_) (by kernel_rfl) rfl rfl HF (fun _ _ _ h => h) (.inl ⟨by rfl, ?_⟩) (by first | assumption | rfl) ?_
            rotate_left
            · intro w hS; try subst hS
              go_simp; try with_reducible rfl
            try simp only [Act.put, List.setIfInBounds_toArray, List.set_cons_zero, List.set_cons_succ]
            refine AnyH.take (i := 5) (d := some 80) (v := ?_) (by kernel_rfl) rfl rfl HF (fun _ _ _ h => h) (.inl ⟨by rfl, ?_⟩) (by first | assumption | rfl) ?_
            rotate_left
            · intro w hS; try subst hS
              go_simp; try with_reducible rfl
            try simp only [Act.put, List.setIfInBounds_toArray, List.set_cons_zero, List.set_cons_succ]
            refine AnyH.take (i := 6) (d := some 81) (v := ?_) (by kernel_rfl) rfl rfl HF (fun _ _ _ h => h) (.inl ⟨by rfl, ?_⟩) (by first | assumption | rfl) ?_
            rotate_left
            · intro w hS; try subst hS
              go_simp; try with_reducible rfl
            try simp only [Act.put, List.setIfInBounds_toArray, List.set_cons_zero, List.set_cons_succ]
            refine AnyH.done (by kernel_rfl) ?_
            clear SW
            by_cases hf : uN = x.n
            · have hfb : ((uN : Int) == (x.n : Int)) = true := by rw [hf]; simp
              obtain ⟨w9, hw9⟩ : ∃ w, w8.setCell ⟨p, 0, none⟩ (.slice A' l.length c') = w := ⟨_, rfl⟩
              have hR9 : RdC w9 p (.slice A' l.length c') uN aN := by rw [← hw9]; exact HR8.out.setV _
              obtain ⟨d0', d1', d2', h0', h1', h2'⟩ := hR9.cells
              obtain ⟨w10, hw10⟩ : ∃ w, w9.setCell ⟨p, 1, none⟩ (.int .i64 0) = w := ⟨_, rfl⟩
              have hR10 : RdC w10 p (.slice A' l.length c') 0 aN := by rw [← hw10]; exact hR9.setU 0
              have HO10 : Hid (OnT tsR W w10) := Lib.hid (by rw [← hw10, ← hw9]; exact (HO8.out.trans (OnT.set (a := ⟨p, 0, none⟩) HR8.out (by decide) _)).trans (OnT.set (a := ⟨p, 1, none⟩) (by rw [hw9]; exact hR9) (by decide) _))
              have HBB10 : Hid (BX p lo wr w10) := Lib.hid (by rw [← hw10, ← hw9]; exact (HBB8.out.set 0 _).set 1 _)
              have HE10 : Hid (Pcs lo w10 v5 (em ++ rdE x u a T)) := Lib.hid (by rw [← hw10, ← hw9]; exact (HE8.out.setCell (a := ⟨p, 0, none⟩) _ HR8.out (by decide)).setCell (a := ⟨p, 1, none⟩) _ (by rw [hw9]; exact hR9) (by decide))
              have HR10 := Lib.hid hR10
              have HFF : Hid (u + rdN x u a T = x.n) := Lib.hid (by rw [HN.out, HSU.out.2.1]; exact hf)
              clear hR9 hR10 hf
              go_wp2_with fail
              clear d0 d1 d2 h0 h1 h2 y0 y1 y2 d0' d1' d2' h0' h1' h2' hw9 hw10
              go_roundw
              case rel =>
                obtain ⟨e1, e2, e3, e4, e5, e6, e7, e8, e9⟩ := HEND.out
                obtain ⟨z1, z2, z3, z4⟩ := readF_full (l := l) haT HFF.out
                rw [z1] at e4; rw [z2] at e5; rw [z3] at e6; rw [z4] at e7
                rw [HN.out, HSU.out.1] at e4 e5 e6 e7
                exact ⟨em ++ rdE x u a T, l, 0, aN, A', c', HE10.out, HR10.out, fun w hw => HDR.out w (e3 w ((HBB10.out.mono HL2.out).trans hw)), HUL.out.1, HUL.out.2.1, by omega, by rw [List.append_assoc]; exact e4, e5, e6, e7, HO10.out, e9.trans HBB10.out⟩
              case measure =>
                rw [HMS.out, rdM_at HR10.out]
                simp only [List.length_cons]
                rw [if_pos hab]
                split <;> omega
            · have hfb : ((uN : Int) == (x.n : Int)) = false := beq_eq_false_iff_ne.2 (by omega)
              have HFF : Hid (u + rdN x u a T ≠ x.n) := Lib.hid (by rw [HN.out, HSU.out.2.1]; exact hf)
              clear hf
              go_wp2_with fail
              clear d0 d1 d2 h0 h1 h2 y0 y1 y2
              go_roundw
              case rel =>
                obtain ⟨e1, e2, e3, e4, e5, e6, e7, e8, e9⟩ := HEND.out
                obtain ⟨z1, z2, z3⟩ := readF_part (l := l) haT HFF.out (by have := HSU.out; omega)
                rw [z2] at e4 e5 e6 e7
                rw [HN.out, HSU.out.1] at z1
                rw [HN.out, HSU.out.1, HSU.out.2.1] at z3 e6 e7 e5 e4
                exact ⟨em ++ rdE x u a T, x :: l, uN, aN, some b, sc, HE8.out, HR8.out, fun w hw => e3 w ((HBB8.out.mono HL2.out).trans hw), show uN ≤ x.n by omega, HUL.out.2.2, by omega, by rw [z3, List.append_nil]; exact e4, by rw [z3]; exact e5, by rw [z3]; exact e6, by rw [z3]; exact e7, HO8.out, e9.trans HBB8.out⟩
              case measure =>
                have z1 := (readF_part (l := l) haT HFF.out (by have := HSU.out; omega)).1
                rw [HN.out, HSU.out.1] at z1
                rw [HMS.out, rdM_at HR8.out]
                simp only [List.length_cons]
                have := HSU.out
                rw [if_pos hab, if_neg (by omega)]
                omega
          · have hn1 : ¬ (ta : Int) > 0 := by omega
            have HO5 : Hid (OnT tsR W w3) := Lib.hid (HEND.out.2.2.2.2.2.2.2.1.trans (OnT.of HB3.out))
            have HBB5 : Hid (BX p lo wr w3) := Lib.hid (BX.of (HB3.out.mono (Nat.le_trans HLO.out HEND.out.2.2.2.2.2.2.2.2.size)))
            have HE5 : Hid (Pcs lo w3 (.slice toa ton toc) (em ++ rdE x u a T)) := Lib.hid (by unfold rdE; rw [HN.out, if_neg hn0, List.append_nil]; exact SlA.below HEND.out.1 HB3.out)
            have HR5 := HR3; have HK5 := HK3
            obtain ⟨w6, hw6⟩ : ∃ w, w3.setCell ⟨p, 2, none⟩ (.int .i64 (aN : Int)) = w := ⟨_, rfl⟩
            have hR6 : RdC w6 p (.slice (some b) (l.length + 1) sc) u aN := by rw [← hw6]; exact HR5.out.setA aN
            have hK6 : PcC w6 gc x := by rw [← hw6]; exact HK5.out.set HGC.out.1 _
            obtain ⟨d0', d1', d2', h0', h1', h2'⟩ := hR6.cells
            obtain ⟨w7, hw7⟩ : ∃ w, w6.setCell ⟨p, 1, none⟩ (.int .i64 (uN : Int)) = w := ⟨_, rfl⟩
            have hR7 : RdC w7 p (.slice (some b) (l.length + 1) sc) uN aN := by rw [← hw7]; exact hR6.setU uN
            have hK7 : PcC w7 gc x := by rw [← hw7]; exact hK6.set HGC.out.1 _
            have HO7 : Hid (OnT tsR W w7) := Lib.hid (by rw [← hw7, ← hw6]; exact (HO5.out.trans (OnT.set (a := ⟨p, 2, none⟩) HR5.out (by decide) _)).trans (OnT.set (a := ⟨p, 1, none⟩) (by rw [hw6]; exact hR6) (by decide) _))
            have HBB7 : Hid (BX p lo wr w7) := Lib.hid (by rw [← hw7, ← hw6]; exact (HBB5.out.set 2 _).set 1 _)
            have HE7 : Hid (Pcs lo w7 (.slice toa ton toc) (em ++ rdE x u a T)) := Lib.hid (by rw [← hw7, ← hw6]; exact (HE5.out.setCell (a := ⟨p, 2, none⟩) _ HR5.out (by decide)).setCell (a := ⟨p, 1, none⟩) _ (by rw [hw6]; exact hR6) (by decide))
            have HR7 := Lib.hid hR7; have HK7 := Lib.hid hK7
            clear hR6 hK6 hR7 hK7
            go_wp2_with fail
            clear d0 d1 d2 h0 h1 h2 y0 y1 y2 d0' d1' d2' h0' h1' h2' hw6 hw7
            obtain ⟨w8, hw8e⟩ : ∃ w, w7.drew = w := ⟨_, rfl⟩
            have b8 : Below w7.heap.size w7 w8 := by rw [← hw8e]; exact (Below.refl _ _).drew
            have HR8 := Lib.hid (show RdC w8 p (.slice (some b) (l.length + 1) sc) uN aN from below_block b8 HR7.out)
            have HO8 : Hid (OnT tsR W w8) := Lib.hid (HO7.out.trans (OnT.of b8))
            have HBB8 : Hid (BX p lo wr w8) := Lib.hid (HBB7.out.trans (BX.of (b8.mono (Nat.le_trans (Nat.le_trans HLO.out HEND.out.2.2.2.2.2.2.2.2.size) HBB7.out.size))))
            have HE8 : Hid (Pcs lo w8 (.slice toa ton toc) (em ++ rdE x u a T)) := Lib.hid (SlA.below HE7.out b8)
            obtain ⟨d0, d1, d2, h0, h1, h2⟩ := HR8.out.cells
            obtain ⟨y0, y1, y2⟩ := (show PcC w8 gc x from below_block b8 HK7.out).cells
            clear b8
            refine wp_region_anyH (fun w => w = w8) (by kernel_rfl) ?_
            rw [hw8e]
            clear hw8e
            have SW : w8 = w8 := rfl
            refine AnyH.take (i := 0) (d := some 75) (v := ?_) (by kernel_rfl) rfl rfl HF (fun _ _ _ h => h) (.inl ⟨by rfl, ?_⟩) (by first | assumption | rfl) ?_
            rotate_left
            · intro w hS; try subst hS
              go_simp; try with_reducible rfl
            try simp only [Act.put, List.setIfInBounds_toArray, List.set_cons_zero, List.set_cons_succ]
            refine AnyH.take (i := 1) (d := some 76) (v := ?_) (by kernel_rfl) rfl rfl HF (fun _ _ _ h => h) (.inl ⟨by rfl, ?_⟩) (by first | assumption | rfl) ?_
            rotate_left
            · intro w hS; try subst hS
              go_simp; try with_reducible rfl
            try simp only [Act.put, List.setIfInBounds_toArray, List.set_cons_zero, List.set_cons_succ]
            refine AnyH.take (i := 2) (d := some 77) (v := ?_) (by kernel_rfl) rfl rfl HF (fun _ _ _ h => h) (.inl ⟨by rfl, ?_⟩) (by first | assumption | rfl) ?_
            rotate_left
            · intro w hS; try subst hS
              go_simp; try with_reducible rfl
            try simp only [Act.put, List.setIfInBounds_toArray, List.set_cons_zero, List.set_cons_succ]
            refine AnyH.take (i := 3) (d := some 78) (v := ?_) (by kernel_rfl) rfl rfl HF (fun _ _ _ h => h) (.inl ⟨by rfl, ?_⟩) (by first | assumption | rfl) ?_
            rotate_left
            · intro w hS; try subst hS
              go_simp; try with_reducible rfl
            try simp only [Act.put, List.setIfInBounds_toArray, List.set_cons_zero, List.set_cons_succ]
            refine AnyH.take (i := 4) (d := some 79) (v := ?_) (by kernel_rfl) rfl rfl HF (fun _ _ _ h => h) (.inl ⟨by rfl, ?_⟩) (by first | assumption | rfl) ?_
            rotate_left
            · intro w hS; try subst hS
              go_simp; try with_reducible rfl
            try simp only [Act.put, List.setIfInBounds_toArray, List.set_cons_zero, List.set_cons_succ]
            refine AnyH.take (i := 5) (d := some 80) (v := ?_) (by kernel_rfl) rfl rfl HF (fun _ _ _ h => h) (.inl ⟨by rfl, ?_⟩) (by first | assumption | rfl) ?_
            rotate_left
            · intro w hS; try subst hS
              go_simp; try with_reducible rfl
            try simp only [Act.put, List.setIfInBounds_toArray, List.set_cons_zero, List.set_cons_succ]
            refine AnyH.take (i := 6) (d := some 81) (v := ?_) (by kernel_rfl) rfl rfl HF (fun _ _ _ h => h) (.inl ⟨by rfl, ?_⟩) (by first | assumption | rfl) ?_
            rotate_left
            · intro w hS; try subst hS
              go_simp; try with_reducible rfl
            try simp only [Act.put, List.setIfInBounds_toArray, List.set_cons_zero, List.set_cons_succ]
            refine AnyH.done (by kernel_rfl) ?_
            clear SW
            by_cases hf : uN = x.n
            · have hfb : ((uN : Int) == (x.n : Int)) = true := by rw [hf]; simp
              obtain ⟨w9, hw9⟩ : ∃ w, w8.setCell ⟨p, 0, none⟩ (.slice A' l.length c') = w := ⟨_, rfl⟩
              have hR9 : RdC w9 p (.slice A' l.length c') uN aN := by rw [← hw9]; exact HR8.out.setV _
              obtain ⟨d0', d1', d2', h0', h1', h2'⟩ := hR9.cells
              obtain ⟨w10, hw10⟩ : ∃ w, w9.setCell ⟨p, 1, none⟩ (.int .i64 0) = w := ⟨_, rfl⟩
              have hR10 : RdC w10 p (.slice A' l.length c') 0 aN := by rw [← hw10]; exact hR9.setU 0
              have HO10 : Hid (OnT tsR W w10) := Lib.hid (by rw [← hw10, ← hw9]; exact (HO8.out.trans (OnT.set (a := ⟨p, 0, none⟩) HR8.out (by decide) _)).trans (OnT.set (a := ⟨p, 1, none⟩) (by rw [hw9]; exact hR9) (by decide) _))
              have HBB10 : Hid (BX p lo wr w10) := Lib.hid (by rw [← hw10, ← hw9]; exact (HBB8.out.set 0 _).set 1 _)
              have HE10 : Hid (Pcs lo w10 (.slice toa ton toc) (em ++ rdE x u a T)) := Lib.hid (by rw [← hw10, ← hw9]; exact (HE8.out.setCell (a := ⟨p, 0, none⟩) _ HR8.out (by decide)).setCell (a := ⟨p, 1, none⟩) _ (by rw [hw9]; exact hR9) (by decide))
              have HR10 := Lib.hid hR10
              have HFF : Hid (u + rdN x u a T = x.n) := Lib.hid (by rw [HN.out, HSU.out.2.1]; exact hf)
              clear hR9 hR10 hf
              go_wp2_with fail
              clear d0 d1 d2 h0 h1 h2 y0 y1 y2 d0' d1' d2' h0' h1' h2' hw9 hw10
              go_roundw
              case rel =>
                obtain ⟨e1, e2, e3, e4, e5, e6, e7, e8, e9⟩ := HEND.out
                obtain ⟨z1, z2, z3, z4⟩ := readF_full (l := l) haT HFF.out
                rw [z1] at e4; rw [z2] at e5; rw [z3] at e6; rw [z4] at e7
                rw [HN.out, HSU.out.1] at e4 e5 e6 e7
                exact ⟨em ++ rdE x u a T, l, 0, aN, A', c', HE10.out, HR10.out, fun w hw => HDR.out w (e3 w ((HBB10.out.mono HL2.out).trans hw)), HUL.out.1, HUL.out.2.1, by omega, by rw [List.append_assoc]; exact e4, e5, e6, e7, HO10.out, e9.trans HBB10.out⟩
              case measure =>
                rw [HMS.out, rdM_at HR10.out]
                simp only [List.length_cons]
                rw [if_pos hab]
                split <;> omega
            · have hfb : ((uN : Int) == (x.n : Int)) = false := beq_eq_false_iff_ne.2 (by omega)
              have HFF : Hid (u + rdN x u a T ≠ x.n) := Lib.hid (by rw [HN.out, HSU.out.2.1]; exact hf)
              clear hf
              go_wp2_with fail
              clear d0 d1 d2 h0 h1 h2 y0 y1 y2
              go_roundw
              case rel =>
                obtain ⟨e1, e2, e3, e4, e5, e6, e7, e8, e9⟩ := HEND.out
                obtain ⟨z1, z2, z3⟩ := readF_part (l := l) haT HFF.out (by have := HSU.out; omega)
                rw [z2] at e4 e5 e6 e7
                rw [HN.out, HSU.out.1] at z1
                rw [HN.out, HSU.out.1, HSU.out.2.1] at z3 e6 e7 e5 e4
                exact ⟨em ++ rdE x u a T, x :: l, uN, aN, some b, sc, HE8.out, HR8.out, fun w hw => e3 w ((HBB8.out.mono HL2.out).trans hw), show uN ≤ x.n by omega, HUL.out.2.2, by omega, by rw [z3, List.append_nil]; exact e4, by rw [z3]; exact e5, by rw [z3]; exact e6, by rw [z3]; exact e7, HO8.out, e9.trans HBB8.out⟩
              case measure =>
                have z1 := (readF_part (l := l) haT HFF.out (by have := HSU.out; omega)).1
                rw [HN.out, HSU.out.1] at z1
                rw [HMS.out, rdM_at HR8.out]
                simp only [List.length_cons]
                have := HSU.out
                rw [if_pos hab, if_neg (by omega)]
                omega
end M
end Go.Proofs.Ytplccefjljdjnaa
