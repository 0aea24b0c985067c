/- Dropping a key, on plain trees. No program. -/
import Derived.Test.YtlfodhejpbjfcaaMore
namespace Go.Proofs.Ytlfodhejpbjfcaa
open Go.RowKit
variable {κ ν : Type}

/-- lt is a strict total order. -/
structure Strict (lt : κ → κ → Bool) : Prop where
  irrefl : ∀ a, lt a a = false
  trans : ∀ a b c, lt a b = true → lt b c = true → lt a c = true
  total : ∀ a b, lt a b = false → lt b a = false → a = b

theorem Strict.asymm {lt : κ → κ → Bool} (h : Strict lt) {a b : κ} (hab : lt a b = true) : lt b a = false := by
  cases e : lt b a with
  | false => rfl
  | true => have := h.trans _ _ _ hab e; rw [h.irrefl] at this; cases this

theorem strict_int : Strict (fun a b : Int => decide (a < b)) where
  irrefl a := by simp
  trans a b c h1 h2 := by simp at *; omega
  total a b h1 h2 := by simp at *; omega

def Sorted (lt : κ → κ → Bool) (l : List (κ × ν)) : Prop := l.Pairwise fun a b => lt a.1 b.1 = true

/-- A list with a value at a key. -/
def insL (lt : κ → κ → Bool) (k : κ) (v : ν) : List (κ × ν) → List (κ × ν)
  | [] => [(k, v)]
  | p :: l => if lt k p.1 then (k, v) :: p :: l else if lt p.1 k then p :: insL lt k v l else (k, v) :: l

section laws
variable {lt : κ → κ → Bool} (hs : Strict lt)
include hs

omit hs in
theorem insL_append_left {k nk : κ} {v nv : ν} (h : lt k nk = true) : ∀ (l r : List (κ × ν)), (∀ p ∈ l, lt p.1 nk = true) → insL lt k v (l ++ (nk, nv) :: r) = insL lt k v l ++ (nk, nv) :: r
  | [], r, _ => by simp [insL, h]
  | p :: l, r, hl => by
    simp only [List.cons_append, insL]
    split
    · rfl
    · split
      · rw [insL_append_left h l r fun q hq => hl q (List.mem_cons_of_mem _ hq)]; rfl
      · rfl

theorem insL_append_right {k : κ} {v : ν} : ∀ (l r : List (κ × ν)), (∀ p ∈ l, lt p.1 k = true) → insL lt k v (l ++ r) = l ++ insL lt k v r
  | [], _, _ => rfl
  | p :: l, r, hl => by
    have h1 := hl p List.mem_cons_self
    simp only [List.cons_append, insL]
    rw [if_neg (by simp [hs.asymm h1]), if_pos h1, insL_append_right l r fun q hq => hl q (List.mem_cons_of_mem _ hq)]

omit hs in
theorem sorted_node {l : List (κ × ν)} {p : κ × ν} {r : List (κ × ν)} (h : Sorted lt (l ++ p :: r)) :
    Sorted lt l ∧ Sorted lt r ∧ (∀ q ∈ l, lt q.1 p.1 = true) ∧ (∀ q ∈ r, lt p.1 q.1 = true) := by
  unfold Sorted at *
  rw [List.pairwise_append] at h
  obtain ⟨h1, h2, h3⟩ := h
  rw [List.pairwise_cons] at h2
  exact ⟨h1, h2.2, fun q hq => h3 q hq p List.mem_cons_self, h2.1⟩

theorem putF_toList (k : κ) (v : ν) : ∀ T : Tr κ ν, Sorted lt T.toList → (putF lt k v T).toList = insL lt k v T.toList
  | .nil, _ => rfl
  | .node l nk nv r, h => by
    obtain ⟨h1, h2, h3, h4⟩ := sorted_node h
    simp only [putF, Tr.toList]
    by_cases c1 : lt k nk = true
    · rw [if_pos c1, levelF_toList, putF_toList k v l h1, insL_append_left c1 _ _ h3]
    · rw [if_neg c1]
      by_cases c2 : lt nk k = true
      · rw [if_pos c2, levelF_toList, putF_toList k v r h2]
        rw [insL_append_right hs _ _ fun q hq => hs.trans _ _ _ (h3 q hq) c2]
        simp only [insL]
        rw [if_neg c1, if_pos c2]
      · rw [if_neg c2]
        obtain rfl := hs.total k nk (by simpa using c1) (by simpa using c2)
        rw [insL_append_right hs _ _ h3]
        simp [Tr.toList, insL, hs.irrefl]

omit hs in
theorem insL_mem {k : κ} {v : ν} {q : κ × ν} : ∀ {l : List (κ × ν)}, q ∈ insL lt k v l → q = (k, v) ∨ q ∈ l
  | [], h => by simp [insL] at h; exact .inl h
  | p :: l, h => by
    simp only [insL] at h
    split at h
    · rcases List.mem_cons.1 h with h | h
      · exact .inl h
      · exact .inr h
    · split at h
      · rcases List.mem_cons.1 h with h | h
        · exact .inr (h ▸ List.mem_cons_self)
        · rcases insL_mem h with h | h
          · exact .inl h
          · exact .inr (List.mem_cons_of_mem _ h)
      · rcases List.mem_cons.1 h with h | h
        · exact .inl h
        · exact .inr (List.mem_cons_of_mem _ h)

theorem insL_sorted {k : κ} {v : ν} : ∀ {l : List (κ × ν)}, Sorted lt l → Sorted lt (insL lt k v l)
  | [], _ => by simp [insL, Sorted]
  | p :: l, h => by
    have h' := List.pairwise_cons.1 h
    simp only [insL]
    split
    · rename_i c
      refine List.pairwise_cons.2 ⟨fun q hq => ?_, h⟩
      rcases List.mem_cons.1 hq with rfl | hq
      · exact c
      · exact hs.trans _ _ _ c (h'.1 q hq)
    · split
      · rename_i c
        refine List.pairwise_cons.2 ⟨fun q hq => ?_, insL_sorted h'.2⟩
        rcases insL_mem hq with rfl | hq
        · exact c
        · exact h'.1 q hq
      · rename_i c1 c2
        have e := hs.total k p.1 (by simpa using c1) (by simpa using c2)
        refine List.pairwise_cons.2 ⟨fun q hq => ?_, h'.2⟩
        have := h'.1 q hq
        rwa [← e] at this

theorem putF_sorted {k : κ} {v : ν} {T : Tr κ ν} (h : Sorted lt T.toList) : Sorted lt (putF lt k v T).toList := by
  rw [putF_toList hs k v T h]; exact insL_sorted hs h

/-- The entry with a key. -/
def lookL (lt : κ → κ → Bool) (k : κ) (l : List (κ × ν)) : Option (κ × ν) := l.find? fun p => !lt k p.1 && !lt p.1 k
/-- The entry with the greatest key that is at most k. -/
def floorL (lt : κ → κ → Bool) (k : κ) (l : List (κ × ν)) : Option (κ × ν) := (l.takeWhile fun p => !lt k p.1).getLast?
/-- The entry with the least key that is at least k. -/
def ceilL (lt : κ → κ → Bool) (k : κ) (l : List (κ × ν)) : Option (κ × ν) := l.find? fun p => !lt p.1 k

omit hs in
theorem takeWhile_append_all {α : Type} {f : α → Bool} : ∀ (l r : List α), (∀ a ∈ l, f a = true) → (l ++ r).takeWhile f = l ++ r.takeWhile f
  | [], _, _ => rfl
  | a :: l, r, h => by
    simp only [List.cons_append, List.takeWhile_cons, h a List.mem_cons_self, if_true]
    rw [takeWhile_append_all l r fun b hb => h b (List.mem_cons_of_mem _ hb)]
omit hs in
theorem takeWhile_stop {α : Type} {f : α → Bool} {a : α} (ha : f a = false) : ∀ (l r : List α), (l ++ a :: r).takeWhile f = l.takeWhile f
  | [], _ => by simp [ha]
  | b :: l, r => by
    simp only [List.cons_append, List.takeWhile_cons]
    split
    · rw [takeWhile_stop ha l r]
    · rfl
omit hs in
theorem find_append_none {α : Type} {f : α → Bool} (l r : List α) (h : ∀ a ∈ l, f a = false) : (l ++ r).find? f = r.find? f := by
  rw [List.find?_append, List.find?_eq_none.2 fun a ha => by simp [h a ha]]; rfl

theorem findF_top (k : κ) : ∀ T : Tr κ ν, Sorted lt T.toList → (findF lt k T).top? = lookL lt k T.toList
  | .nil, _ => rfl
  | .node l nk nv r, h => by
    obtain ⟨h1, h2, h3, h4⟩ := sorted_node h
    simp only [findF, Tr.toList]
    by_cases c1 : lt k nk = true
    · rw [if_pos c1, findF_top k l h1]
      unfold lookL
      have e : List.find? (fun p => !lt k p.1 && !lt p.1 k) r.toList = none := List.find?_eq_none.2 (fun q hq => by simp [hs.trans _ _ _ c1 (h4 q hq)])
      rw [List.find?_append, List.find?_cons_of_neg (by simp [c1]), e]
      simp
    · rw [if_neg c1]
      by_cases c2 : lt nk k = true
      · rw [if_pos c2, findF_top k r h2]
        unfold lookL
        rw [find_append_none _ _ fun q hq => by simp [hs.trans _ _ _ (h3 q hq) c2], List.find?_cons_of_neg (by simp [c2])]
      · rw [if_neg c2]
        have e := hs.total k nk (by simpa using c1) (by simpa using c2)
        subst e
        unfold lookL
        rw [find_append_none _ _ fun q hq => by simp [h3 q hq], List.find?_cons_of_pos (by simp [hs.irrefl])]
        rfl

theorem floorF_top (k : κ) : ∀ (T B : Tr κ ν), Sorted lt T.toList → (floorF lt k B T).top? = (floorL lt k T.toList).or B.top?
  | .nil, B, _ => by simp [floorF, floorL, Tr.toList]
  | .node l nk nv r, B, h => by
    obtain ⟨h1, h2, h3, h4⟩ := sorted_node h
    simp only [floorF, Tr.toList]
    by_cases c1 : lt k nk = true
    · rw [if_pos c1, floorF_top k l B h1]
      unfold floorL
      rw [takeWhile_stop (by simp [c1])]
    · rw [if_neg c1, floorF_top k r _ h2]
      unfold floorL
      rw [takeWhile_append_all _ _ fun q hq => by
        by_cases e : lt nk k = true
        · simp [hs.asymm (hs.trans _ _ _ (h3 q hq) e)]
        · have e' := hs.total k nk (by simpa using c1) (by simpa using e)
          subst e'; simp [hs.asymm (h3 q hq)]]
      rw [List.takeWhile_cons, if_pos (by simpa using c1)]
      generalize List.takeWhile (fun p => !lt k p.1) r.toList = x
      rw [List.getLast?_append, List.getLast?_cons]
      cases x.getLast? <;> rfl

theorem ceilF_top (k : κ) : ∀ (T B : Tr κ ν), Sorted lt T.toList → (ceilF lt k B T).top? = (ceilL lt k T.toList).or B.top?
  | .nil, B, _ => by simp [ceilF, ceilL, Tr.toList]
  | .node l nk nv r, B, h => by
    obtain ⟨h1, h2, h3, h4⟩ := sorted_node h
    simp only [ceilF, Tr.toList]
    by_cases c1 : lt nk k = true
    · rw [if_pos c1, ceilF_top k r B h2]
      unfold ceilL
      rw [find_append_none _ _ fun q hq => by simp [hs.trans _ _ _ (h3 q hq) c1], List.find?_cons_of_neg (by simp [c1])]
    · rw [if_neg c1, ceilF_top k l _ h1]
      unfold ceilL
      rw [List.find?_append, List.find?_cons_of_pos (by simpa using c1)]
      cases List.find? (fun p => !lt p.1 k) l.toList <;> simp [Tr.top?]
end laws

/-! ### Keys that are the multiples of a gap -/
def seqL (gap : Int) (a n : Nat) : List (Int × Int) := (List.range' a n).map fun j : Nat => (gap * (j : Int), (j : Int))

theorem seqL_sorted {gap : Int} (hg : 1 ≤ gap) (a n : Nat) : Sorted (fun a b : Int => decide (a < b)) (seqL gap a n) := by
  unfold Sorted seqL
  rw [List.pairwise_map]
  refine List.Pairwise.imp ?_ (List.pairwise_lt_range' (s := a) (n := n))
  intro x y h
  simp only [decide_eq_true_eq]
  exact Int.mul_lt_mul_of_pos_left (by omega) (by omega)
theorem seqL_end {gap : Int} (hg : 1 ≤ gap) (a n : Nat) : insL (fun a b : Int => decide (a < b)) (gap * ((a + n : Nat) : Int)) ((a + n : Nat) : Int) (seqL gap a n) = seqL gap a (n + 1) := by
  have h := insL_append_right strict_int (k := gap * ((a + n : Nat) : Int)) (v := ((a + n : Nat) : Int)) (seqL gap a n) [] (by
    intro p hp
    obtain ⟨j, hj, rfl⟩ := List.mem_map.1 hp
    have := List.mem_range'_1.1 hj
    simp only [decide_eq_true_eq]
    exact Int.mul_lt_mul_of_pos_left (by omega) (by omega))
  rw [List.append_nil] at h
  rw [h]
  simp [seqL, insL, List.range'_concat, List.map_append]
theorem seqL_front {gap : Int} (hg : 1 ≤ gap) (a n : Nat) : insL (fun a b : Int => decide (a < b)) (gap * (a : Int)) (a : Int) (seqL gap (a + 1) n) = seqL gap a (n + 1) := by
  cases n with
  | zero => simp [seqL, insL]
  | succ n =>
    have : gap * (a : Int) < gap * ((a + 1 : Nat) : Int) := Int.mul_lt_mul_of_pos_left (by omega) (by omega)
    simp only [seqL, List.range'_succ, List.map_cons, insL]
    rw [if_pos (by simpa using this)]
theorem seqL_split (gap : Int) (a m n : Nat) : seqL gap a (m + n) = seqL gap a m ++ seqL gap (a + m) n := by
  unfold seqL; rw [← List.map_append]; congr 1
  rw [List.range'_append_1]
theorem seqL_floor {gap : Int} (hg : 1 ≤ gap) {i n : Nat} (hi : i < n) : floorL (fun a b : Int => decide (a < b)) (gap * (i : Int) + gap - 1) (seqL gap 0 n) = some (gap * (i : Int), (i : Int)) := by
  obtain ⟨m, rfl⟩ : ∃ m, n = (i + 1) + m := ⟨n - (i + 1), by omega⟩
  rw [seqL_split]
  unfold floorL
  rw [takeWhile_append_all _ _ (by
    intro p hp
    obtain ⟨j, hj, rfl⟩ := List.mem_map.1 hp
    have := List.mem_range'_1.1 hj
    have : gap * (j : Int) ≤ gap * (i : Int) := Int.mul_le_mul_of_nonneg_left (by omega) (by omega)
    simp; omega)]
  have e : (seqL gap (0 + (i + 1)) m).takeWhile (fun p => !decide (gap * (i : Int) + gap - 1 < p.1)) = [] := by
    cases m with
    | zero => rfl
    | succ m =>
      simp only [seqL, List.range'_succ, List.map_cons, List.takeWhile_cons]
      rw [if_neg]
      have : gap * ((0 + (i + 1) : Nat) : Int) = gap * (i : Int) + gap := by rw [Nat.zero_add]; simp [Int.mul_add]
      rw [this]; simp; omega
  rw [e, List.append_nil]
  simp [seqL, List.range'_concat]
theorem seqL_ceil {gap : Int} (hg : 1 ≤ gap) {i n : Nat} (hi : i < n) : ceilL (fun a b : Int => decide (a < b)) (gap * (i : Int) - gap + 1) (seqL gap 0 n) = some (gap * (i : Int), (i : Int)) := by
  obtain ⟨m, rfl⟩ : ∃ m, n = i + (m + 1) := ⟨n - (i + 1), by omega⟩
  rw [seqL_split]
  unfold ceilL
  rw [find_append_none _ _ (by
    intro p hp
    obtain ⟨j, hj, rfl⟩ := List.mem_map.1 hp
    have := List.mem_range'_1.1 hj
    have h1 : gap * ((j + 1 : Nat) : Int) ≤ gap * (i : Int) := Int.mul_le_mul_of_nonneg_left (by omega) (by omega)
    have h2 : gap * ((j + 1 : Nat) : Int) = gap * (j : Int) + gap := by simp [Int.mul_add]
    simp; omega)]
  simp only [seqL, List.range'_succ, List.map_cons]
  rw [List.find?_cons_of_pos (by simp; omega)]
  simp

end Go.Proofs.Ytlfodhejpbjfcaa
namespace Go.Proofs.Ytlfodhejpbjfcaa
open Go.RowKit
variable {κ ν : Type}

/-- The least entry of a node, and the tree without it. -/
def cutF : Tr κ ν → κ → ν → Tr κ ν → (κ × ν) × Tr κ ν
  | .nil, k, v, r => ((k, v), r)
  | .node l' k' v' r', k, v, r => ((cutF l' k' v' r').1, levelF (cutF l' k' v' r').2 k v r)
def dropF (lt : κ → κ → Bool) (k : κ) : Tr κ ν → Tr κ ν
  | .nil => .nil
  | .node l nk nv r =>
    if lt k nk then levelF (dropF lt k l) nk nv r
    else if lt nk k then levelF l nk nv (dropF lt k r)
    else match r with
      | .nil => l
      | .node rl rk rv rr => levelF l (cutF rl rk rv rr).1.1 (cutF rl rk rv rr).1.2 (cutF rl rk rv rr).2
/-- What the method Drop leaves. -/
def dropM (lt : κ → κ → Bool) (k : κ) (T : Tr κ ν) : Tr κ ν := match findF lt k T with | .nil => T | _ => dropF lt k T

theorem dropF_l {lt : κ → κ → Bool} {k nk : κ} {l r : Tr κ ν} {nv : ν} (h : lt k nk = true) : dropF lt k (.node l nk nv r) = levelF (dropF lt k l) nk nv r := by
  conv => lhs; unfold dropF
  rw [if_pos h]
theorem dropF_r {lt : κ → κ → Bool} {k nk : κ} {l r : Tr κ ν} {nv : ν} (h1 : ¬ lt k nk = true) (h : lt nk k = true) : dropF lt k (.node l nk nv r) = levelF l nk nv (dropF lt k r) := by
  conv => lhs; unfold dropF
  rw [if_neg h1, if_pos h]
theorem dropF_0 {lt : κ → κ → Bool} {k nk : κ} {l : Tr κ ν} {nv : ν} (h1 : ¬ lt k nk = true) (h2 : ¬ lt nk k = true) : dropF lt k (.node l nk nv .nil) = l := by
  unfold dropF
  rw [if_neg h1, if_neg h2]
theorem dropF_n {lt : κ → κ → Bool} {k nk rk : κ} {l rl rr : Tr κ ν} {nv rv : ν} (h1 : ¬ lt k nk = true) (h2 : ¬ lt nk k = true) : dropF lt k (.node l nk nv (.node rl rk rv rr)) = levelF l (cutF rl rk rv rr).1.1 (cutF rl rk rv rr).1.2 (cutF rl rk rv rr).2 := by
  unfold dropF
  rw [if_neg h1, if_neg h2]
theorem cutF_toList : ∀ (l : Tr κ ν) (k : κ) (v : ν) (r : Tr κ ν), l.toList ++ (k, v) :: r.toList = (cutF l k v r).1 :: (cutF l k v r).2.toList
  | .nil, k, v, r => rfl
  | .node l' k' v' r', k, v, r => by
    have ih := cutF_toList l' k' v' r'
    simp only [cutF, levelF_toList, Tr.toList, ih, List.cons_append]
theorem cutF_sz (l : Tr κ ν) (k : κ) (v : ν) (r : Tr κ ν) : (cutF l k v r).2.sz = l.sz + r.sz := by
  have := congrArg List.length (cutF_toList l k v r)
  rw [Tr.sz_eq, l.sz_eq, r.sz_eq]
  simp at this; omega
theorem dropF_sz (lt : κ → κ → Bool) (k : κ) : ∀ T : Tr κ ν, (dropF lt k T).sz ≤ T.sz
  | .nil => by simp [dropF, Tr.sz]
  | .node l nk nv r => by
    have hl := dropF_sz lt k l; have hr := dropF_sz lt k r
    have := l.sz_nonneg; have := r.sz_nonneg
    unfold dropF
    split
    · rw [levelF_sz]; simp only [Tr.sz]; omega
    · split
      · rw [levelF_sz]; simp only [Tr.sz]; omega
      · cases r with
        | nil => simp only [Tr.sz]; omega
        | node rl rk rv rr => simp only [levelF_sz, cutF_sz, Tr.sz] at *; omega
theorem dropM_sz (lt : κ → κ → Bool) (k : κ) (T : Tr κ ν) : (dropM lt k T).sz ≤ T.sz := by
  unfold dropM; split
  · exact Int.le_refl _
  · exact dropF_sz lt k T

/-- A list without a key. -/
def delL (lt : κ → κ → Bool) (k : κ) (l : List (κ × ν)) : List (κ × ν) := l.filter fun p => lt k p.1 || lt p.1 k

section laws
variable {lt : κ → κ → Bool} (hs : Strict lt)
include hs
omit hs in
theorem delL_append (k : κ) (l r : List (κ × ν)) : delL lt k (l ++ r) = delL lt k l ++ delL lt k r := by simp [delL]
omit hs in
theorem delL_all {k : κ} {l : List (κ × ν)} (h : ∀ p ∈ l, lt k p.1 = true ∨ lt p.1 k = true) : delL lt k l = l := by
  unfold delL; rw [List.filter_eq_self]; intro p hp; rcases h p hp with h | h <;> simp [h]
theorem dropF_toList (k : κ) : ∀ T : Tr κ ν, Sorted lt T.toList → (dropF lt k T).toList = delL lt k T.toList
  | .nil, _ => rfl
  | .node l nk nv r, h => by
    obtain ⟨h1, h2, h3, h4⟩ := sorted_node h
    unfold dropF
    simp only [Tr.toList]
    by_cases c1 : lt k nk = true
    · rw [if_pos c1, levelF_toList, dropF_toList k l h1, delL_append]
      congr 1
      exact (delL_all (by
        intro p hp
        rcases List.mem_cons.1 hp with rfl | hp
        · exact .inl c1
        · exact .inl (hs.trans _ _ _ c1 (h4 p hp)))).symm
    · rw [if_neg c1]
      by_cases c2 : lt nk k = true
      · rw [if_pos c2, levelF_toList, dropF_toList k r h2, delL_append]
        rw [delL_all (l := l.toList) fun p hp => .inr (hs.trans _ _ _ (h3 p hp) c2)]
        congr 1
        simp [delL, c2]
      · rw [if_neg c2]
        have e := hs.total k nk (by simpa using c1) (by simpa using c2)
        subst e
        rw [delL_append, delL_all (l := l.toList) fun p hp => .inr (h3 p hp)]
        have e2 : delL lt k ((k, nv) :: r.toList) = r.toList := by
          have := delL_all (lt := lt) (k := k) (l := r.toList) fun p hp => .inl (h4 p hp)
          unfold delL at *
          rw [List.filter_cons_of_neg (by simp [hs.irrefl]), this]
        rw [e2]
        cases r with
        | nil => simp [Tr.toList]
        | node rl rk rv rr =>
          simp only [levelF_toList]
          show _ = l.toList ++ (rl.toList ++ (rk, rv) :: rr.toList)
          rw [cutF_toList rl rk rv rr]
omit hs in
theorem delL_none {k : κ} {l : List (κ × ν)} (h : lookL lt k l = none) : delL lt k l = l := by
  refine delL_all fun p hp => ?_
  have := List.find?_eq_none.1 h p hp
  simp at this
  cases e : lt k p.1 with
  | true => exact .inl rfl
  | false => exact .inr (this e)
theorem dropM_toList (k : κ) (T : Tr κ ν) (h : Sorted lt T.toList) : (dropM lt k T).toList = delL lt k T.toList := by
  have hf := findF_top hs k T h
  unfold dropM
  split
  · rename_i e
    rw [e] at hf
    exact (delL_none hf.symm).symm
  · exact dropF_toList hs k T h
omit hs in
theorem delL_sorted {k : κ} {l : List (κ × ν)} (h : Sorted lt l) : Sorted lt (delL lt k l) := List.Pairwise.filter _ h
end laws

/-- The first and the last entry. -/
def minF : Tr κ ν → Tr κ ν
  | .nil => .nil
  | .node .nil k v r => .node .nil k v r
  | .node (.node a b c d) _ _ _ => minF (.node a b c d)
def maxF : Tr κ ν → Tr κ ν
  | .nil => .nil
  | .node l k v .nil => .node l k v .nil
  | .node _ _ _ (.node a b c d) => maxF (.node a b c d)
theorem minF_top : ∀ T : Tr κ ν, (minF T).top? = T.toList.head?
  | .nil => rfl
  | .node .nil k v r => rfl
  | .node (.node a b c d) k v r => by
    rw [minF, minF_top (.node a b c d)]
    simp [Tr.toList, List.head?_append]
theorem maxF_top : ∀ T : Tr κ ν, (maxF T).top? = T.toList.getLast?
  | .nil => rfl
  | .node l k v .nil => by simp [maxF, Tr.top?, Tr.toList]
  | .node l k v (.node a b c d) => by
    rw [maxF, maxF_top (.node a b c d)]
    conv => rhs; rw [Tr.toList, List.getLast?_append, List.getLast?_cons]
    cases h : (Tr.node a b c d).toList.getLast? with
    | none => simp [Tr.toList] at h
    | some x => rfl
end Go.Proofs.Ytlfodhejpbjfcaa
