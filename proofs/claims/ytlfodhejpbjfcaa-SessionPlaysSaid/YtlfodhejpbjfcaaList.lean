/- A search tree answers as the sorted list of its keys. No program. -/
import Derived.Test.YtlfodhejpbjfcaaMore
namespace Go.Proofs.Ytlfodhejpbjfcaa
open Go.RowKit
variable {κ ν : Type}

/-- lt is a strict total order. -/
structure Strict (lt : κ → κ → Bool) : Prop where
  irrefl : ∀ a, lt a a = false
  trans : ∀ a b c, lt a b = true → lt b c = true → lt a c = true
  total : ∀ a b, lt a b = false → lt b a = false → a = b

theorem Strict.asymm {lt : κ → κ → Bool} (h : Strict lt) {a b : κ} (hab : lt a b = true) : lt b a = false := by
  cases e : lt b a with
  | false => rfl
  | true => have := h.trans _ _ _ hab e; rw [h.irrefl] at this; cases this

theorem strict_int : Strict (fun a b : Int => decide (a < b)) where
  irrefl a := by simp
  trans a b c h1 h2 := by simp at *; omega
  total a b h1 h2 := by simp at *; omega

def Sorted (lt : κ → κ → Bool) (l : List (κ × ν)) : Prop := l.Pairwise fun a b => lt a.1 b.1 = true

/-- A list with a value at a key. -/
def insL (lt : κ → κ → Bool) (k : κ) (v : ν) : List (κ × ν) → List (κ × ν)
  | [] => [(k, v)]
  | p :: l => if lt k p.1 then (k, v) :: p :: l else if lt p.1 k then p :: insL lt k v l else (k, v) :: l

section laws
variable {lt : κ → κ → Bool} (hs : Strict lt)
include hs

omit hs in
theorem insL_append_left {k nk : κ} {v nv : ν} (h : lt k nk = true) : ∀ (l r : List (κ × ν)), (∀ p ∈ l, lt p.1 nk = true) → insL lt k v (l ++ (nk, nv) :: r) = insL lt k v l ++ (nk, nv) :: r
  | [], r, _ => by simp [insL, h]
  | p :: l, r, hl => by
    simp only [List.cons_append, insL]
    split
    · rfl
    · split
      · rw [insL_append_left h l r fun q hq => hl q (List.mem_cons_of_mem _ hq)]; rfl
      · rfl

theorem insL_append_right {k : κ} {v : ν} : ∀ (l r : List (κ × ν)), (∀ p ∈ l, lt p.1 k = true) → insL lt k v (l ++ r) = l ++ insL lt k v r
  | [], _, _ => rfl
  | p :: l, r, hl => by
    have h1 := hl p List.mem_cons_self
    simp only [List.cons_append, insL]
    rw [if_neg (by simp [hs.asymm h1]), if_pos h1, insL_append_right l r fun q hq => hl q (List.mem_cons_of_mem _ hq)]

omit hs in
theorem sorted_node {l : List (κ × ν)} {p : κ × ν} {r : List (κ × ν)} (h : Sorted lt (l ++ p :: r)) :
    Sorted lt l ∧ Sorted lt r ∧ (∀ q ∈ l, lt q.1 p.1 = true) ∧ (∀ q ∈ r, lt p.1 q.1 = true) := by
  unfold Sorted at *
  rw [List.pairwise_append] at h
  obtain ⟨h1, h2, h3⟩ := h
  rw [List.pairwise_cons] at h2
  exact ⟨h1, h2.2, fun q hq => h3 q hq p List.mem_cons_self, h2.1⟩

theorem putF_toList (k : κ) (v : ν) : ∀ T : Tr κ ν, Sorted lt T.toList → (putF lt k v T).toList = insL lt k v T.toList
  | .nil, _ => rfl
  | .node l nk nv r, h => by
    obtain ⟨h1, h2, h3, h4⟩ := sorted_node h
    simp only [putF, Tr.toList]
    by_cases c1 : lt k nk = true
    · rw [if_pos c1, levelF_toList, putF_toList k v l h1, insL_append_left c1 _ _ h3]
    · rw [if_neg c1]
      by_cases c2 : lt nk k = true
      · rw [if_pos c2, levelF_toList, putF_toList k v r h2]
        rw [insL_append_right hs _ _ fun q hq => hs.trans _ _ _ (h3 q hq) c2]
        simp only [insL]
        rw [if_neg c1, if_pos c2]
      · rw [if_neg c2]
        obtain rfl := hs.total k nk (by simpa using c1) (by simpa using c2)
        rw [insL_append_right hs _ _ h3]
        simp [Tr.toList, insL, hs.irrefl]

omit hs in
theorem insL_mem {k : κ} {v : ν} {q : κ × ν} : ∀ {l : List (κ × ν)}, q ∈ insL lt k v l → q = (k, v) ∨ q ∈ l
  | [], h => by simp [insL] at h; exact .inl h
  | p :: l, h => by
    simp only [insL] at h
    split at h
    · rcases List.mem_cons.1 h with h | h
      · exact .inl h
      · exact .inr h
    · split at h
      · rcases List.mem_cons.1 h with h | h
        · exact .inr (h ▸ List.mem_cons_self)
        · rcases insL_mem h with h | h
          · exact .inl h
          · exact .inr (List.mem_cons_of_mem _ h)
      · rcases List.mem_cons.1 h with h | h
        · exact .inl h
        · exact .inr (List.mem_cons_of_mem _ h)

theorem insL_sorted {k : κ} {v : ν} : ∀ {l : List (κ × ν)}, Sorted lt l → Sorted lt (insL lt k v l)
  | [], _ => by simp [insL, Sorted]
  | p :: l, h => by
    have h' := List.pairwise_cons.1 h
    simp only [insL]
    split
    · rename_i c
      refine List.pairwise_cons.2 ⟨fun q hq => ?_, h⟩
      rcases List.mem_cons.1 hq with rfl | hq
      · exact c
      · exact hs.trans _ _ _ c (h'.1 q hq)
    · split
      · rename_i c
        refine List.pairwise_cons.2 ⟨fun q hq => ?_, insL_sorted h'.2⟩
        rcases insL_mem hq with rfl | hq
        · exact c
        · exact h'.1 q hq
      · rename_i c1 c2
        have e := hs.total k p.1 (by simpa using c1) (by simpa using c2)
        refine List.pairwise_cons.2 ⟨fun q hq => ?_, h'.2⟩
        have := h'.1 q hq
        rwa [← e] at this

theorem putF_sorted {k : κ} {v : ν} {T : Tr κ ν} (h : Sorted lt T.toList) : Sorted lt (putF lt k v T).toList := by
  rw [putF_toList hs k v T h]; exact insL_sorted hs h

/-- The entry with a key. -/
def lookL (lt : κ → κ → Bool) (k : κ) (l : List (κ × ν)) : Option (κ × ν) := l.find? fun p => !lt k p.1 && !lt p.1 k
/-- The entry with the greatest key that is at most k. -/
def floorL (lt : κ → κ → Bool) (k : κ) (l : List (κ × ν)) : Option (κ × ν) := (l.takeWhile fun p => !lt k p.1).getLast?
/-- The entry with the least key that is at least k. -/
def ceilL (lt : κ → κ → Bool) (k : κ) (l : List (κ × ν)) : Option (κ × ν) := l.find? fun p => !lt p.1 k

omit hs in
theorem takeWhile_append_all {α : Type} {f : α → Bool} : ∀ (l r : List α), (∀ a ∈ l, f a = true) → (l ++ r).takeWhile f = l ++ r.takeWhile f
  | [], _, _ => rfl
  | a :: l, r, h => by
    simp only [List.cons_append, List.takeWhile_cons, h a List.mem_cons_self, if_true]
    rw [takeWhile_append_all l r fun b hb => h b (List.mem_cons_of_mem _ hb)]
omit hs in
theorem takeWhile_stop {α : Type} {f : α → Bool} {a : α} (ha : f a = false) : ∀ (l r : List α), (l ++ a :: r).takeWhile f = l.takeWhile f
  | [], _ => by simp [ha]
  | b :: l, r => by
    simp only [List.cons_append, List.takeWhile_cons]
    split
    · rw [takeWhile_stop ha l r]
    · rfl
omit hs in
theorem find_append_none {α : Type} {f : α → Bool} (l r : List α) (h : ∀ a ∈ l, f a = false) : (l ++ r).find? f = r.find? f := by
  rw [List.find?_append, List.find?_eq_none.2 fun a ha => by simp [h a ha]]; rfl

theorem findF_top (k : κ) : ∀ T : Tr κ ν, Sorted lt T.toList → (findF lt k T).top? = lookL lt k T.toList
  | .nil, _ => rfl
  | .node l nk nv r, h => by
    obtain ⟨h1, h2, h3, h4⟩ := sorted_node h
    simp only [findF, Tr.toList]
    by_cases c1 : lt k nk = true
    · rw [if_pos c1, findF_top k l h1]
      unfold lookL
      have e : List.find? (fun p => !lt k p.1 && !lt p.1 k) r.toList = none := List.find?_eq_none.2 (fun q hq => by simp [hs.trans _ _ _ c1 (h4 q hq)])
      rw [List.find?_append, List.find?_cons_of_neg (by simp [c1]), e]
      simp
    · rw [if_neg c1]
      by_cases c2 : lt nk k = true
      · rw [if_pos c2, findF_top k r h2]
        unfold lookL
        rw [find_append_none _ _ fun q hq => by simp [hs.trans _ _ _ (h3 q hq) c2], List.find?_cons_of_neg (by simp [c2])]
      · rw [if_neg c2]
        have e := hs.total k nk (by simpa using c1) (by simpa using c2)
        subst e
        unfold lookL
        rw [find_append_none _ _ fun q hq => by simp [h3 q hq], List.find?_cons_of_pos (by simp [hs.irrefl])]
        rfl

theorem floorF_top (k : κ) : ∀ (T B : Tr κ ν), Sorted lt T.toList → (floorF lt k B T).top? = (floorL lt k T.toList).or B.top?
  | .nil, B, _ => by simp [floorF, floorL, Tr.toList]
  | .node l nk nv r, B, h => by
    obtain ⟨h1, h2, h3, h4⟩ := sorted_node h
    simp only [floorF, Tr.toList]
    by_cases c1 : lt k nk = true
    · rw [if_pos c1, floorF_top k l B h1]
      unfold floorL
      rw [takeWhile_stop (by simp [c1])]
    · rw [if_neg c1, floorF_top k r _ h2]
      unfold floorL
      rw [takeWhile_append_all _ _ fun q hq => by
        by_cases e : lt nk k = true
        · simp [hs.asymm (hs.trans _ _ _ (h3 q hq) e)]
        · have e' := hs.total k nk (by simpa using c1) (by simpa using e)
          subst e'; simp [hs.asymm (h3 q hq)]]
      rw [List.takeWhile_cons, if_pos (by simpa using c1)]
      generalize List.takeWhile (fun p => !lt k p.1) r.toList = x
      rw [List.getLast?_append, List.getLast?_cons]
      cases x.getLast? <;> rfl

theorem ceilF_top (k : κ) : ∀ (T B : Tr κ ν), Sorted lt T.toList → (ceilF lt k B T).top? = (ceilL lt k T.toList).or B.top?
  | .nil, B, _ => by simp [ceilF, ceilL, Tr.toList]
  | .node l nk nv r, B, h => by
    obtain ⟨h1, h2, h3, h4⟩ := sorted_node h
    simp only [ceilF, Tr.toList]
    by_cases c1 : lt nk k = true
    · rw [if_pos c1, ceilF_top k r B h2]
      unfold ceilL
      rw [find_append_none _ _ fun q hq => by simp [hs.trans _ _ _ (h3 q hq) c1], List.find?_cons_of_neg (by simp [c1])]
    · rw [if_neg c1, ceilF_top k l _ h1]
      unfold ceilL
      rw [List.find?_append, List.find?_cons_of_pos (by simpa using c1)]
      cases List.find? (fun p => !lt p.1 k) l.toList <;> simp [Tr.top?]
end laws

/-! ### Keys that are the multiples of a gap -/
def seqL (gap : Int) (a n : Nat) : List (Int × Int) := (List.range' a n).map fun j : Nat => (gap * (j : Int), (j : Int))

theorem seqL_sorted {gap : Int} (hg : 1 ≤ gap) (a n : Nat) : Sorted (fun a b : Int => decide (a < b)) (seqL gap a n) := by
  unfold Sorted seqL
  rw [List.pairwise_map]
  refine List.Pairwise.imp ?_ (List.pairwise_lt_range' (s := a) (n := n))
  intro x y h
  simp only [decide_eq_true_eq]
  exact Int.mul_lt_mul_of_pos_left (by omega) (by omega)
theorem seqL_end {gap : Int} (hg : 1 ≤ gap) (a n : Nat) : insL (fun a b : Int => decide (a < b)) (gap * ((a + n : Nat) : Int)) ((a + n : Nat) : Int) (seqL gap a n) = seqL gap a (n + 1) := by
  have h := insL_append_right strict_int (k := gap * ((a + n : Nat) : Int)) (v := ((a + n : Nat) : Int)) (seqL gap a n) [] (by
    intro p hp
    obtain ⟨j, hj, rfl⟩ := List.mem_map.1 hp
    have := List.mem_range'_1.1 hj
    simp only [decide_eq_true_eq]
    exact Int.mul_lt_mul_of_pos_left (by omega) (by omega))
  rw [List.append_nil] at h
  rw [h]
  simp [seqL, insL, List.range'_concat, List.map_append]
theorem seqL_front {gap : Int} (hg : 1 ≤ gap) (a n : Nat) : insL (fun a b : Int => decide (a < b)) (gap * (a : Int)) (a : Int) (seqL gap (a + 1) n) = seqL gap a (n + 1) := by
  cases n with
  | zero => simp [seqL, insL]
  | succ n =>
    have : gap * (a : Int) < gap * ((a + 1 : Nat) : Int) := Int.mul_lt_mul_of_pos_left (by omega) (by omega)
    simp only [seqL, List.range'_succ, List.map_cons, insL]
    rw [if_pos (by simpa using this)]
theorem seqL_split (gap : Int) (a m n : Nat) : seqL gap a (m + n) = seqL gap a m ++ seqL gap (a + m) n := by
  unfold seqL; rw [← List.map_append]; congr 1
  rw [List.range'_append_1]
theorem seqL_floor {gap : Int} (hg : 1 ≤ gap) {i n : Nat} (hi : i < n) : floorL (fun a b : Int => decide (a < b)) (gap * (i : Int) + gap - 1) (seqL gap 0 n) = some (gap * (i : Int), (i : Int)) := by
  obtain ⟨m, rfl⟩ : ∃ m, n = (i + 1) + m := ⟨n - (i + 1), by omega⟩
  rw [seqL_split]
  unfold floorL
  rw [takeWhile_append_all _ _ (by
    intro p hp
    obtain ⟨j, hj, rfl⟩ := List.mem_map.1 hp
    have := List.mem_range'_1.1 hj
    have : gap * (j : Int) ≤ gap * (i : Int) := Int.mul_le_mul_of_nonneg_left (by omega) (by omega)
    simp; omega)]
  have e : (seqL gap (0 + (i + 1)) m).takeWhile (fun p => !decide (gap * (i : Int) + gap - 1 < p.1)) = [] := by
    cases m with
    | zero => rfl
    | succ m =>
      simp only [seqL, List.range'_succ, List.map_cons, List.takeWhile_cons]
      rw [if_neg]
      have : gap * ((0 + (i + 1) : Nat) : Int) = gap * (i : Int) + gap := by rw [Nat.zero_add]; simp [Int.mul_add]
      rw [this]; simp; omega
  rw [e, List.append_nil]
  simp [seqL, List.range'_concat]
theorem seqL_ceil {gap : Int} (hg : 1 ≤ gap) {i n : Nat} (hi : i < n) : ceilL (fun a b : Int => decide (a < b)) (gap * (i : Int) - gap + 1) (seqL gap 0 n) = some (gap * (i : Int), (i : Int)) := by
  obtain ⟨m, rfl⟩ : ∃ m, n = i + (m + 1) := ⟨n - (i + 1), by omega⟩
  rw [seqL_split]
  unfold ceilL
  rw [find_append_none _ _ (by
    intro p hp
    obtain ⟨j, hj, rfl⟩ := List.mem_map.1 hp
    have := List.mem_range'_1.1 hj
    have h1 : gap * ((j + 1 : Nat) : Int) ≤ gap * (i : Int) := Int.mul_le_mul_of_nonneg_left (by omega) (by omega)
    have h2 : gap * ((j + 1 : Nat) : Int) = gap * (j : Int) + gap := by simp [Int.mul_add]
    simp; omega)]
  simp only [seqL, List.range'_succ, List.map_cons]
  rw [List.find?_cons_of_pos (by simp; omega)]
  simp

end Go.Proofs.Ytlfodhejpbjfcaa
