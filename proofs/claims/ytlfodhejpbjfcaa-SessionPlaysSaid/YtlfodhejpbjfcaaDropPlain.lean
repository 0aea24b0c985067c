/- Dropping a key, on plain trees. No program. -/
import Derived.Test.YtlfodhejpbjfcaaList
namespace Go.Proofs.Ytlfodhejpbjfcaa
open Go.RowKit
variable {κ ν : Type}

/-- The least entry of a node, and the tree without it. -/
def cutF : Tr κ ν → κ → ν → Tr κ ν → (κ × ν) × Tr κ ν
  | .nil, k, v, r => ((k, v), r)
  | .node l' k' v' r', k, v, r => ((cutF l' k' v' r').1, levelF (cutF l' k' v' r').2 k v r)
def dropF (lt : κ → κ → Bool) (k : κ) : Tr κ ν → Tr κ ν
  | .nil => .nil
  | .node l nk nv r =>
    if lt k nk then levelF (dropF lt k l) nk nv r
    else if lt nk k then levelF l nk nv (dropF lt k r)
    else match r with
      | .nil => l
      | .node rl rk rv rr => levelF l (cutF rl rk rv rr).1.1 (cutF rl rk rv rr).1.2 (cutF rl rk rv rr).2
/-- What the method Drop leaves. -/
def dropM (lt : κ → κ → Bool) (k : κ) (T : Tr κ ν) : Tr κ ν := match findF lt k T with | .nil => T | _ => dropF lt k T

theorem dropF_l {lt : κ → κ → Bool} {k nk : κ} {l r : Tr κ ν} {nv : ν} (h : lt k nk = true) : dropF lt k (.node l nk nv r) = levelF (dropF lt k l) nk nv r := by
  conv => lhs; unfold dropF
  rw [if_pos h]
theorem dropF_r {lt : κ → κ → Bool} {k nk : κ} {l r : Tr κ ν} {nv : ν} (h1 : ¬ lt k nk = true) (h : lt nk k = true) : dropF lt k (.node l nk nv r) = levelF l nk nv (dropF lt k r) := by
  conv => lhs; unfold dropF
  rw [if_neg h1, if_pos h]
theorem dropF_0 {lt : κ → κ → Bool} {k nk : κ} {l : Tr κ ν} {nv : ν} (h1 : ¬ lt k nk = true) (h2 : ¬ lt nk k = true) : dropF lt k (.node l nk nv .nil) = l := by
  unfold dropF
  rw [if_neg h1, if_neg h2]
theorem dropF_n {lt : κ → κ → Bool} {k nk rk : κ} {l rl rr : Tr κ ν} {nv rv : ν} (h1 : ¬ lt k nk = true) (h2 : ¬ lt nk k = true) : dropF lt k (.node l nk nv (.node rl rk rv rr)) = levelF l (cutF rl rk rv rr).1.1 (cutF rl rk rv rr).1.2 (cutF rl rk rv rr).2 := by
  unfold dropF
  rw [if_neg h1, if_neg h2]
theorem cutF_toList : ∀ (l : Tr κ ν) (k : κ) (v : ν) (r : Tr κ ν), l.toList ++ (k, v) :: r.toList = (cutF l k v r).1 :: (cutF l k v r).2.toList
  | .nil, k, v, r => rfl
  | .node l' k' v' r', k, v, r => by
    have ih := cutF_toList l' k' v' r'
    simp only [cutF, levelF_toList, Tr.toList, ih, List.cons_append]
theorem cutF_sz (l : Tr κ ν) (k : κ) (v : ν) (r : Tr κ ν) : (cutF l k v r).2.sz = l.sz + r.sz := by
  have := congrArg List.length (cutF_toList l k v r)
  rw [Tr.sz_eq, l.sz_eq, r.sz_eq]
  simp at this; omega
theorem dropF_sz (lt : κ → κ → Bool) (k : κ) : ∀ T : Tr κ ν, (dropF lt k T).sz ≤ T.sz
  | .nil => by simp [dropF, Tr.sz]
  | .node l nk nv r => by
    have hl := dropF_sz lt k l; have hr := dropF_sz lt k r
    have := l.sz_nonneg; have := r.sz_nonneg
    unfold dropF
    split
    · rw [levelF_sz]; simp only [Tr.sz]; omega
    · split
      · rw [levelF_sz]; simp only [Tr.sz]; omega
      · cases r with
        | nil => simp only [Tr.sz]; omega
        | node rl rk rv rr => simp only [levelF_sz, cutF_sz, Tr.sz] at *; omega
theorem dropM_sz (lt : κ → κ → Bool) (k : κ) (T : Tr κ ν) : (dropM lt k T).sz ≤ T.sz := by
  unfold dropM; split
  · exact Int.le_refl _
  · exact dropF_sz lt k T

/-- A list without a key. -/
def delL (lt : κ → κ → Bool) (k : κ) (l : List (κ × ν)) : List (κ × ν) := l.filter fun p => lt k p.1 || lt p.1 k

section laws
variable {lt : κ → κ → Bool} (hs : Strict lt)
include hs
omit hs in
theorem delL_append (k : κ) (l r : List (κ × ν)) : delL lt k (l ++ r) = delL lt k l ++ delL lt k r := by simp [delL]
omit hs in
theorem delL_all {k : κ} {l : List (κ × ν)} (h : ∀ p ∈ l, lt k p.1 = true ∨ lt p.1 k = true) : delL lt k l = l := by
  unfold delL; rw [List.filter_eq_self]; intro p hp; rcases h p hp with h | h <;> simp [h]
theorem dropF_toList (k : κ) : ∀ T : Tr κ ν, Sorted lt T.toList → (dropF lt k T).toList = delL lt k T.toList
  | .nil, _ => rfl
  | .node l nk nv r, h => by
    obtain ⟨h1, h2, h3, h4⟩ := sorted_node h
    unfold dropF
    simp only [Tr.toList]
    by_cases c1 : lt k nk = true
    · rw [if_pos c1, levelF_toList, dropF_toList k l h1, delL_append]
      congr 1
      exact (delL_all (by
        intro p hp
        rcases List.mem_cons.1 hp with rfl | hp
        · exact .inl c1
        · exact .inl (hs.trans _ _ _ c1 (h4 p hp)))).symm
    · rw [if_neg c1]
      by_cases c2 : lt nk k = true
      · rw [if_pos c2, levelF_toList, dropF_toList k r h2, delL_append]
        rw [delL_all (l := l.toList) fun p hp => .inr (hs.trans _ _ _ (h3 p hp) c2)]
        congr 1
        simp [delL, c2]
      · rw [if_neg c2]
        have e := hs.total k nk (by simpa using c1) (by simpa using c2)
        subst e
        rw [delL_append, delL_all (l := l.toList) fun p hp => .inr (h3 p hp)]
        have e2 : delL lt k ((k, nv) :: r.toList) = r.toList := by
          have := delL_all (lt := lt) (k := k) (l := r.toList) fun p hp => .inl (h4 p hp)
          unfold delL at *
          rw [List.filter_cons_of_neg (by simp [hs.irrefl]), this]
        rw [e2]
        cases r with
        | nil => simp [Tr.toList]
        | node rl rk rv rr =>
          simp only [levelF_toList]
          show _ = l.toList ++ (rl.toList ++ (rk, rv) :: rr.toList)
          rw [cutF_toList rl rk rv rr]
omit hs in
theorem delL_none {k : κ} {l : List (κ × ν)} (h : lookL lt k l = none) : delL lt k l = l := by
  refine delL_all fun p hp => ?_
  have := List.find?_eq_none.1 h p hp
  simp at this
  cases e : lt k p.1 with
  | true => exact .inl rfl
  | false => exact .inr (this e)
theorem dropM_toList (k : κ) (T : Tr κ ν) (h : Sorted lt T.toList) : (dropM lt k T).toList = delL lt k T.toList := by
  have hf := findF_top hs k T h
  unfold dropM
  split
  · rename_i e
    rw [e] at hf
    exact (delL_none hf.symm).symm
  · exact dropF_toList hs k T h
omit hs in
theorem delL_sorted {k : κ} {l : List (κ × ν)} (h : Sorted lt l) : Sorted lt (delL lt k l) := List.Pairwise.filter _ h
end laws

/-- The first and the last entry. -/
def minF : Tr κ ν → Tr κ ν
  | .nil => .nil
  | .node .nil k v r => .node .nil k v r
  | .node (.node a b c d) _ _ _ => minF (.node a b c d)
def maxF : Tr κ ν → Tr κ ν
  | .nil => .nil
  | .node l k v .nil => .node l k v .nil
  | .node _ _ _ (.node a b c d) => maxF (.node a b c d)
theorem minF_top : ∀ T : Tr κ ν, (minF T).top? = T.toList.head?
  | .nil => rfl
  | .node .nil k v r => rfl
  | .node (.node a b c d) k v r => by
    rw [minF, minF_top (.node a b c d)]
    simp [Tr.toList, List.head?_append]
theorem maxF_top : ∀ T : Tr κ ν, (maxF T).top? = T.toList.getLast?
  | .nil => rfl
  | .node l k v .nil => by simp [maxF, Tr.top?, Tr.toList]
  | .node l k v (.node a b c d) => by
    rw [maxF, maxF_top (.node a b c d)]
    conv => rhs; rw [Tr.toList, List.getLast?_append, List.getLast?_cons]
    cases h : (Tr.node a b c d).toList.getLast? with
    | none => simp [Tr.toList] at h
    | some x => rfl
end Go.Proofs.Ytlfodhejpbjfcaa
