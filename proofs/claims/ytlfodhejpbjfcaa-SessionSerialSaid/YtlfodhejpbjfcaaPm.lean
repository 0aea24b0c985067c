/- Plain trees: what layer 8's functions compute, and that a tree answers as a sorted list. No program.
More on plain trees. No program.
A search tree answers as the sorted list of its keys. No program.
Dropping a key, on plain trees. No program.
What a commit makes of a tree and of the names' last versions. No program. -/
import Derived.Below
import Derived.Deep.Draws
import Derived.Test.YtlfodhejpbjfcaaCom
set_option linter.unusedVariables false
set_option linter.unusedSimpArgs false
namespace Go.Proofs.Ytlfodhejpbjfcaa
open Go.RowKit

inductive Tr (κ ν : Type) : Type where
  | nil : Tr κ ν
  | node (l : Tr κ ν) (k : κ) (v : ν) (r : Tr κ ν) : Tr κ ν

variable {κ ν : Type}

def Tr.ht : Tr κ ν → Int
  | .nil => 0
  | .node l _ _ r => 1 + max l.ht r.ht
def Tr.sz : Tr κ ν → Int
  | .nil => 0
  | .node l _ _ r => 1 + l.sz + r.sz
def Tr.toList : Tr κ ν → List (κ × ν)
  | .nil => []
  | .node l k v r => l.toList ++ (k, v) :: r.toList

theorem Tr.ht_nonneg : ∀ T : Tr κ ν, 0 ≤ T.ht
  | .nil => by simp [Tr.ht]
  | .node l _ _ r => by have := l.ht_nonneg; have := r.ht_nonneg; simp only [Tr.ht]; omega
theorem Tr.ht_le_sz : ∀ T : Tr κ ν, T.ht ≤ T.sz
  | .nil => by simp [Tr.ht, Tr.sz]
  | .node l _ _ r => by
    have := l.ht_le_sz; have := r.ht_le_sz; have := l.ht_nonneg; have := r.ht_nonneg
    simp only [Tr.ht, Tr.sz]; omega
theorem Tr.sz_nonneg (T : Tr κ ν) : 0 ≤ T.sz := Int.le_trans T.ht_nonneg T.ht_le_sz
theorem Tr.sz_eq : ∀ T : Tr κ ν, T.sz = T.toList.length
  | .nil => by simp [Tr.toList, Tr.sz]
  | .node l _ _ r => by have := l.sz_eq; have := r.sz_eq; simp only [Tr.toList, Tr.sz, List.length_append, List.length_cons]; omega
theorem Tr.ht_zero : ∀ {T : Tr κ ν}, T.ht ≤ 0 → T = .nil
  | .nil, _ => rfl
  | .node l _ _ r, h => by have := l.ht_nonneg; have := r.ht_nonneg; simp only [Tr.ht] at h; omega

/-- A tree of nodes lies in memory at p: six cells a node, of type nt. -/
def IsT (ek : κ → Value) (ev : ν → Value) (nt : TypeId) (W : World) : Option Addr → Tr κ ν → Prop
  | p, .nil => p = none
  | p, .node l k v r => ∃ (b : Nat) (pl pr : Option Addr), p = some ⟨b, 0, none⟩ ∧
      W.heap[b]? = some (.cells #[ek k, ev v, .pointer pl, .pointer pr, .int .i64 (1 + max l.ht r.ht), .int .i64 (1 + l.sz + r.sz)] nt (0, 0)) ∧
      IsT ek ev nt W pl l ∧ IsT ek ev nt W pr r

/-- No block of type nt that lay has turned. -/
def KeepT (nt : TypeId) (W W' : World) : Prop := ∀ (b : Nat) (cs : Array Value) (fz : Nat × Nat), W.heap[b]? = some (.cells cs nt fz) → W'.heap[b]? = some (.cells cs nt fz)

theorem KeepT.refl (nt : TypeId) (W : World) : KeepT nt W W := fun _ _ _ h => h
theorem KeepT.trans {nt : TypeId} {A B C : World} (h : KeepT nt A B) (k : KeepT nt B C) : KeepT nt A C := fun b cs fz e => k b cs fz (h b cs fz e)
theorem KeepT.below {nt : TypeId} {A B : World} (h : Below A.heap.size A B) : KeepT nt A B := fun b cs fz e => by
  have hb : b < A.heap.size := (Array.getElem?_eq_some_iff.1 e).1
  rw [h.block b hb]; exact e
theorem KeepT.drew {nt : TypeId} {A B : World} (h : KeepT nt A B) : KeepT nt A B.drew := h
theorem KeepT.setCell {nt : TypeId} {W : World} {a : Addr} {v : Value} {cs : Array Value} {t : TypeId} {fz : Nat × Nat} (h : W.heap[a.block]? = some (.cells cs t fz)) (ht : t ≠ nt) : KeepT nt W (W.setCell a v) := fun b cs' fz' e => by
  have hb : b ≠ a.block := by
    intro eb; subst eb; rw [h] at e; simp at e; exact ht e.2.1
  rw [Below.heap_setCell _ _ _ _ hb]; exact e

theorem IsT.keep {ek : κ → Value} {ev : ν → Value} {nt : TypeId} {A B : World} (h : KeepT nt A B) : ∀ {p : Option Addr} {T : Tr κ ν}, IsT ek ev nt A p T → IsT ek ev nt B p T
  | _, .nil, ht => ht
  | _, .node _ _ _ _, ⟨b, pl, pr, hp, hc, hl, hr⟩ => ⟨b, pl, pr, hp, h _ _ _ hc, IsT.keep h hl, IsT.keep h hr⟩
theorem IsT.below {ek : κ → Value} {ev : ν → Value} {nt : TypeId} {A B : World} (h : Below A.heap.size A B) {p : Option Addr} {T : Tr κ ν} (t : IsT ek ev nt A p T) : IsT ek ev nt B p T := t.keep (KeepT.below h)

/-- What a node's block gives to the walk. -/
theorem node_cells {W : World} {b : Nat} {k v l r h c : Value} {nt : TypeId} (hb : W.heap[b]? = some (.cells #[k, v, l, r, h, c] nt (0, 0))) :
    W.cell? ⟨b, 0, none⟩ = some k ∧ W.cell? ⟨b, 1, none⟩ = some v ∧ W.cell? ⟨b, 2, none⟩ = some l ∧ W.cell? ⟨b, 3, none⟩ = some r ∧ W.cell? ⟨b, 4, none⟩ = some h ∧ W.cell? ⟨b, 5, none⟩ = some c := by
  refine ⟨?_, ?_, ?_, ?_, ?_, ?_⟩ <;> simp [World.cell?, hb]
theorem heap_new (W : World) (o : Obj) : (W.alloc o).heap[W.heap.size]? = some o := by
  show (W.heap.push o)[W.heap.size]? = _
  simp
theorem Below.step {A B C : World} (h : Below A.heap.size A B) (k : Below B.heap.size B C) : Below A.heap.size A C := h.trans (k.mono h.size)

/-- What level makes of two subtrees. -/
def levelF (L : Tr κ ν) (k : κ) (v : ν) (R : Tr κ ν) : Tr κ ν :=
  if R.ht + 1 < L.ht then
    match L with
    | .nil => .node L k v R
    | .node ll lk lv lr =>
      if lr.ht ≤ ll.ht then .node ll lk lv (.node lr k v R) else
      match lr with
      | .nil => .node L k v R
      | .node a tk tv b => .node (.node ll lk lv a) tk tv (.node b k v R)
  else if L.ht + 1 < R.ht then
    match R with
    | .nil => .node L k v R
    | .node rl rk rv rr =>
      if rl.ht ≤ rr.ht then .node (.node L k v rl) rk rv rr else
      match rl with
      | .nil => .node L k v R
      | .node a tk tv b => .node (.node L k v a) tk tv (.node b rk rv rr)
  else .node L k v R

theorem levelF_toList (L : Tr κ ν) (k : κ) (v : ν) (R : Tr κ ν) : (levelF L k v R).toList = L.toList ++ (k, v) :: R.toList := by
  unfold levelF
  repeat' split
  all_goals simp [Tr.toList]
theorem levelF_sz (L : Tr κ ν) (k : κ) (v : ν) (R : Tr κ ν) : (levelF L k v R).sz = 1 + L.sz + R.sz := by
  rw [Tr.sz_eq, levelF_toList, L.sz_eq, R.sz_eq]; simp; omega

/-- The heights of siblings differ by at most 1. -/
def Bal : Tr κ ν → Prop
  | .nil => True
  | .node l _ _ r => Bal l ∧ Bal r ∧ l.ht ≤ r.ht + 1 ∧ r.ht ≤ l.ht + 1

theorem levelF_bal {L : Tr κ ν} {k : κ} {v : ν} {R : Tr κ ν} (hL : Bal L) (hR : Bal R) (h1 : L.ht ≤ R.ht + 2) (h2 : R.ht ≤ L.ht + 2) :
    Bal (levelF L k v R) ∧ max L.ht R.ht ≤ (levelF L k v R).ht ∧ (levelF L k v R).ht ≤ 1 + max L.ht R.ht := by
  unfold levelF
  split
  · cases L with
    | nil => have := R.ht_nonneg; simp only [Tr.ht] at *; omega
    | node ll lk lv lr =>
      simp only [Tr.ht, Bal] at *
      split
      · simp only [Tr.ht, Bal]; refine ⟨⟨hL.1, ⟨hL.2.1, hR, ?_, ?_⟩, ?_, ?_⟩, ?_, ?_⟩ <;> omega
      · cases lr with
        | nil => have := ll.ht_nonneg; simp only [Tr.ht] at *; omega
        | node a tk tv b =>
          simp only [Tr.ht, Bal] at *
          refine ⟨⟨⟨hL.1, hL.2.1.1, ?_, ?_⟩, ⟨hL.2.1.2.1, hR, ?_, ?_⟩, ?_, ?_⟩, ?_, ?_⟩ <;> omega
  · split
    · cases R with
      | nil => have := L.ht_nonneg; simp only [Tr.ht] at *; omega
      | node rl rk rv rr =>
        simp only [Tr.ht, Bal] at *
        split
        · simp only [Tr.ht, Bal]; refine ⟨⟨⟨hL, hR.1, ?_, ?_⟩, hR.2.1, ?_, ?_⟩, ?_, ?_⟩ <;> omega
        · cases rl with
          | nil => have := rr.ht_nonneg; simp only [Tr.ht] at *; omega
          | node a tk tv b =>
            simp only [Tr.ht, Bal] at *
            refine ⟨⟨⟨hL, hR.1.1, ?_, ?_⟩, ⟨hR.1.2.1, hR.2.1, ?_, ?_⟩, ?_, ?_⟩, ?_, ?_⟩ <;> omega
    · simp only [Tr.ht, Bal]; refine ⟨⟨hL, hR, ?_, ?_⟩, ?_, ?_⟩ <;> omega

/-! ### The functions -/
section fns
variable (lt : κ → κ → Bool)

def putF (k : κ) (v : ν) : Tr κ ν → Tr κ ν
  | .nil => .node .nil k v .nil
  | .node l nk nv r =>
    if lt k nk then levelF (putF k v l) nk nv r
    else if lt nk k then levelF l nk nv (putF k v r)
    else .node l k v r

def findF (k : κ) : Tr κ ν → Tr κ ν
  | .nil => .nil
  | .node l nk nv r => if lt k nk then findF k l else if lt nk k then findF k r else .node l nk nv r

def floorF (k : κ) : Tr κ ν → Tr κ ν → Tr κ ν
  | best, .nil => best
  | best, .node l nk nv r => if lt k nk then floorF k best l else floorF k (.node l nk nv r) r
def ceilF (k : κ) : Tr κ ν → Tr κ ν → Tr κ ν
  | best, .nil => best
  | best, .node l nk nv r => if lt nk k then ceilF k best r else ceilF k (.node l nk nv r) l

end fns

def Tr.top? : Tr κ ν → Option (κ × ν)
  | .nil => none
  | .node _ k v _ => some (k, v)

theorem putF_sz (lt : κ → κ → Bool) (k : κ) (v : ν) : ∀ T : Tr κ ν, T.sz ≤ (putF lt k v T).sz ∧ (putF lt k v T).sz ≤ 1 + T.sz
  | .nil => by simp [putF, Tr.sz]
  | .node l nk nv r => by
    have hl := putF_sz lt k v l; have hr := putF_sz lt k v r
    unfold putF; split
    · rw [levelF_sz]; simp only [Tr.sz]; omega
    · split
      · rw [levelF_sz]; simp only [Tr.sz]; omega
      · simp only [Tr.sz]; omega

end Go.Proofs.Ytlfodhejpbjfcaa
namespace Go.Proofs.Ytlfodhejpbjfcaa
open Go.RowKit
variable {κ ν : Type}

theorem Below.drewN' (B : Nat) (W : World) (n : Nat) : Below B W (W.drewN n) := by
  induction n with
  | zero => exact Below.refl _ _
  | succ n ih => exact ih.trans (Below.drew (Below.refl _ _))

theorem box_cell {W : World} {B : Nat} {t : TypeId} {v : Value} (h : W.heap[B]? = some (.cells #[v] t (0, 0))) : W.cell? ⟨B, 0, none⟩ = some v := by simp [World.cell?, h]
theorem box_frozen {W : World} {B : Nat} {t : TypeId} {v : Value} (h : W.heap[B]? = some (.cells #[v] t (0, 0))) : W.frozen? ⟨B, 0, none⟩ = false := by simp [World.frozen?, h]
theorem box_set {W : World} {B : Nat} {t : TypeId} {v : Value} (v' : Value) (h : W.heap[B]? = some (.cells #[v] t (0, 0))) : (W.setCell ⟨B, 0, none⟩ v').heap[B]? = some (.cells #[v'] t (0, 0)) := by
  obtain ⟨hlt, hk⟩ := Array.getElem?_eq_some_iff.1 h
  show (W.heap.modify B _)[B]? = _
  rw [Array.getElem?_eq_getElem (by rw [Array.size_modify]; exact hlt), Array.getElem_modify_self, hk]
  rfl
theorem box_below {A B : World} {b : Nat} {o : Obj} (hB : Below A.heap.size A B) (h : A.heap[b]? = some o) : B.heap[b]? = some o := (hB.block b (Array.getElem?_eq_some_iff.1 h).1).trans h

/-- The size that a node's own cell holds. -/
def szAt (W : World) : Value → Nat
  | .pointer (some a) => match W.cell? ⟨a.block, 5, none⟩ with | some (.int _ n) => n.toNat | _ => 0
  | _ => 0
theorem IsT.szAt {ek : κ → Value} {ev : ν → Value} {nt : TypeId} {W : World} {p : Option Addr} {T : Tr κ ν} (h : IsT ek ev nt W p T) : szAt W (.pointer p) = T.sz.toNat := by
  cases T with
  | nil => obtain rfl : p = none := h; rfl
  | node l k v r =>
    obtain ⟨b, pl, pr, rfl, hb, -, -⟩ := h
    obtain ⟨-, -, -, -, -, h5⟩ := node_cells hb
    show (match W.cell? ⟨b, 5, none⟩ with | some (.int _ n) => n.toNat | _ => 0) = _
    rw [h5]; rfl
theorem szAt_drewN (W : World) (n : Nat) (v : Value) : szAt (W.drewN n) v = szAt W v := by
  unfold szAt; split <;> simp
theorem Tr.sz_pos {l : Tr κ ν} {k : κ} {v : ν} {r : Tr κ ν} : l.sz < (Tr.node l k v r).sz ∧ r.sz < (Tr.node l k v r).sz ∧ 0 < (Tr.node l k v r).sz := by
  have := l.sz_nonneg; have := r.sz_nonneg; simp only [Tr.sz]; omega


end Go.Proofs.Ytlfodhejpbjfcaa
namespace Go.Proofs.Ytlfodhejpbjfcaa
open Go.RowKit
variable {κ ν : Type}

/-- lt is a strict total order. -/
structure Strict (lt : κ → κ → Bool) : Prop where
  irrefl : ∀ a, lt a a = false
  trans : ∀ a b c, lt a b = true → lt b c = true → lt a c = true
  total : ∀ a b, lt a b = false → lt b a = false → a = b

theorem Strict.asymm {lt : κ → κ → Bool} (h : Strict lt) {a b : κ} (hab : lt a b = true) : lt b a = false := by
  cases e : lt b a with
  | false => rfl
  | true => have := h.trans _ _ _ hab e; rw [h.irrefl] at this; cases this

theorem strict_int : Strict (fun a b : Int => decide (a < b)) where
  irrefl a := by simp
  trans a b c h1 h2 := by simp at *; omega
  total a b h1 h2 := by simp at *; omega

def Sorted (lt : κ → κ → Bool) (l : List (κ × ν)) : Prop := l.Pairwise fun a b => lt a.1 b.1 = true

/-- A list with a value at a key. -/
def insL (lt : κ → κ → Bool) (k : κ) (v : ν) : List (κ × ν) → List (κ × ν)
  | [] => [(k, v)]
  | p :: l => if lt k p.1 then (k, v) :: p :: l else if lt p.1 k then p :: insL lt k v l else (k, v) :: l

section laws
variable {lt : κ → κ → Bool} (hs : Strict lt)
include hs

omit hs in
theorem insL_append_left {k nk : κ} {v nv : ν} (h : lt k nk = true) : ∀ (l r : List (κ × ν)), (∀ p ∈ l, lt p.1 nk = true) → insL lt k v (l ++ (nk, nv) :: r) = insL lt k v l ++ (nk, nv) :: r
  | [], r, _ => by simp [insL, h]
  | p :: l, r, hl => by
    simp only [List.cons_append, insL]
    split
    · rfl
    · split
      · rw [insL_append_left h l r fun q hq => hl q (List.mem_cons_of_mem _ hq)]; rfl
      · rfl

theorem insL_append_right {k : κ} {v : ν} : ∀ (l r : List (κ × ν)), (∀ p ∈ l, lt p.1 k = true) → insL lt k v (l ++ r) = l ++ insL lt k v r
  | [], _, _ => rfl
  | p :: l, r, hl => by
    have h1 := hl p List.mem_cons_self
    simp only [List.cons_append, insL]
    rw [if_neg (by simp [hs.asymm h1]), if_pos h1, insL_append_right l r fun q hq => hl q (List.mem_cons_of_mem _ hq)]

omit hs in
theorem sorted_node {l : List (κ × ν)} {p : κ × ν} {r : List (κ × ν)} (h : Sorted lt (l ++ p :: r)) :
    Sorted lt l ∧ Sorted lt r ∧ (∀ q ∈ l, lt q.1 p.1 = true) ∧ (∀ q ∈ r, lt p.1 q.1 = true) := by
  unfold Sorted at *
  rw [List.pairwise_append] at h
  obtain ⟨h1, h2, h3⟩ := h
  rw [List.pairwise_cons] at h2
  exact ⟨h1, h2.2, fun q hq => h3 q hq p List.mem_cons_self, h2.1⟩

theorem putF_toList (k : κ) (v : ν) : ∀ T : Tr κ ν, Sorted lt T.toList → (putF lt k v T).toList = insL lt k v T.toList
  | .nil, _ => rfl
  | .node l nk nv r, h => by
    obtain ⟨h1, h2, h3, h4⟩ := sorted_node h
    simp only [putF, Tr.toList]
    by_cases c1 : lt k nk = true
    · rw [if_pos c1, levelF_toList, putF_toList k v l h1, insL_append_left c1 _ _ h3]
    · rw [if_neg c1]
      by_cases c2 : lt nk k = true
      · rw [if_pos c2, levelF_toList, putF_toList k v r h2]
        rw [insL_append_right hs _ _ fun q hq => hs.trans _ _ _ (h3 q hq) c2]
        simp only [insL]
        rw [if_neg c1, if_pos c2]
      · rw [if_neg c2]
        obtain rfl := hs.total k nk (by simpa using c1) (by simpa using c2)
        rw [insL_append_right hs _ _ h3]
        simp [Tr.toList, insL, hs.irrefl]

omit hs in
theorem insL_mem {k : κ} {v : ν} {q : κ × ν} : ∀ {l : List (κ × ν)}, q ∈ insL lt k v l → q = (k, v) ∨ q ∈ l
  | [], h => by simp [insL] at h; exact .inl h
  | p :: l, h => by
    simp only [insL] at h
    split at h
    · rcases List.mem_cons.1 h with h | h
      · exact .inl h
      · exact .inr h
    · split at h
      · rcases List.mem_cons.1 h with h | h
        · exact .inr (h ▸ List.mem_cons_self)
        · rcases insL_mem h with h | h
          · exact .inl h
          · exact .inr (List.mem_cons_of_mem _ h)
      · rcases List.mem_cons.1 h with h | h
        · exact .inl h
        · exact .inr (List.mem_cons_of_mem _ h)

theorem insL_sorted {k : κ} {v : ν} : ∀ {l : List (κ × ν)}, Sorted lt l → Sorted lt (insL lt k v l)
  | [], _ => by simp [insL, Sorted]
  | p :: l, h => by
    have h' := List.pairwise_cons.1 h
    simp only [insL]
    split
    · rename_i c
      refine List.pairwise_cons.2 ⟨fun q hq => ?_, h⟩
      rcases List.mem_cons.1 hq with rfl | hq
      · exact c
      · exact hs.trans _ _ _ c (h'.1 q hq)
    · split
      · rename_i c
        refine List.pairwise_cons.2 ⟨fun q hq => ?_, insL_sorted h'.2⟩
        rcases insL_mem hq with rfl | hq
        · exact c
        · exact h'.1 q hq
      · rename_i c1 c2
        have e := hs.total k p.1 (by simpa using c1) (by simpa using c2)
        refine List.pairwise_cons.2 ⟨fun q hq => ?_, h'.2⟩
        have := h'.1 q hq
        rwa [← e] at this

theorem putF_sorted {k : κ} {v : ν} {T : Tr κ ν} (h : Sorted lt T.toList) : Sorted lt (putF lt k v T).toList := by
  rw [putF_toList hs k v T h]; exact insL_sorted hs h

/-- The entry with a key. -/
def lookL (lt : κ → κ → Bool) (k : κ) (l : List (κ × ν)) : Option (κ × ν) := l.find? fun p => !lt k p.1 && !lt p.1 k
/-- The entry with the greatest key that is at most k. -/
def floorL (lt : κ → κ → Bool) (k : κ) (l : List (κ × ν)) : Option (κ × ν) := (l.takeWhile fun p => !lt k p.1).getLast?
/-- The entry with the least key that is at least k. -/
def ceilL (lt : κ → κ → Bool) (k : κ) (l : List (κ × ν)) : Option (κ × ν) := l.find? fun p => !lt p.1 k

omit hs in
theorem takeWhile_append_all {α : Type} {f : α → Bool} : ∀ (l r : List α), (∀ a ∈ l, f a = true) → (l ++ r).takeWhile f = l ++ r.takeWhile f
  | [], _, _ => rfl
  | a :: l, r, h => by
    simp only [List.cons_append, List.takeWhile_cons, h a List.mem_cons_self, if_true]
    rw [takeWhile_append_all l r fun b hb => h b (List.mem_cons_of_mem _ hb)]
omit hs in
theorem takeWhile_stop {α : Type} {f : α → Bool} {a : α} (ha : f a = false) : ∀ (l r : List α), (l ++ a :: r).takeWhile f = l.takeWhile f
  | [], _ => by simp [ha]
  | b :: l, r => by
    simp only [List.cons_append, List.takeWhile_cons]
    split
    · rw [takeWhile_stop ha l r]
    · rfl
omit hs in
theorem find_append_none {α : Type} {f : α → Bool} (l r : List α) (h : ∀ a ∈ l, f a = false) : (l ++ r).find? f = r.find? f := by
  rw [List.find?_append, List.find?_eq_none.2 fun a ha => by simp [h a ha]]; rfl

theorem findF_top (k : κ) : ∀ T : Tr κ ν, Sorted lt T.toList → (findF lt k T).top? = lookL lt k T.toList
  | .nil, _ => rfl
  | .node l nk nv r, h => by
    obtain ⟨h1, h2, h3, h4⟩ := sorted_node h
    simp only [findF, Tr.toList]
    by_cases c1 : lt k nk = true
    · rw [if_pos c1, findF_top k l h1]
      unfold lookL
      have e : List.find? (fun p => !lt k p.1 && !lt p.1 k) r.toList = none := List.find?_eq_none.2 (fun q hq => by simp [hs.trans _ _ _ c1 (h4 q hq)])
      rw [List.find?_append, List.find?_cons_of_neg (by simp [c1]), e]
      simp
    · rw [if_neg c1]
      by_cases c2 : lt nk k = true
      · rw [if_pos c2, findF_top k r h2]
        unfold lookL
        rw [find_append_none _ _ fun q hq => by simp [hs.trans _ _ _ (h3 q hq) c2], List.find?_cons_of_neg (by simp [c2])]
      · rw [if_neg c2]
        have e := hs.total k nk (by simpa using c1) (by simpa using c2)
        subst e
        unfold lookL
        rw [find_append_none _ _ fun q hq => by simp [h3 q hq], List.find?_cons_of_pos (by simp [hs.irrefl])]
        rfl

theorem floorF_top (k : κ) : ∀ (T B : Tr κ ν), Sorted lt T.toList → (floorF lt k B T).top? = (floorL lt k T.toList).or B.top?
  | .nil, B, _ => by simp [floorF, floorL, Tr.toList]
  | .node l nk nv r, B, h => by
    obtain ⟨h1, h2, h3, h4⟩ := sorted_node h
    simp only [floorF, Tr.toList]
    by_cases c1 : lt k nk = true
    · rw [if_pos c1, floorF_top k l B h1]
      unfold floorL
      rw [takeWhile_stop (by simp [c1])]
    · rw [if_neg c1, floorF_top k r _ h2]
      unfold floorL
      rw [takeWhile_append_all _ _ fun q hq => by
        by_cases e : lt nk k = true
        · simp [hs.asymm (hs.trans _ _ _ (h3 q hq) e)]
        · have e' := hs.total k nk (by simpa using c1) (by simpa using e)
          subst e'; simp [hs.asymm (h3 q hq)]]
      rw [List.takeWhile_cons, if_pos (by simpa using c1)]
      generalize List.takeWhile (fun p => !lt k p.1) r.toList = x
      rw [List.getLast?_append, List.getLast?_cons]
      cases x.getLast? <;> rfl

theorem ceilF_top (k : κ) : ∀ (T B : Tr κ ν), Sorted lt T.toList → (ceilF lt k B T).top? = (ceilL lt k T.toList).or B.top?
  | .nil, B, _ => by simp [ceilF, ceilL, Tr.toList]
  | .node l nk nv r, B, h => by
    obtain ⟨h1, h2, h3, h4⟩ := sorted_node h
    simp only [ceilF, Tr.toList]
    by_cases c1 : lt nk k = true
    · rw [if_pos c1, ceilF_top k r B h2]
      unfold ceilL
      rw [find_append_none _ _ fun q hq => by simp [hs.trans _ _ _ (h3 q hq) c1], List.find?_cons_of_neg (by simp [c1])]
    · rw [if_neg c1, ceilF_top k l _ h1]
      unfold ceilL
      rw [List.find?_append, List.find?_cons_of_pos (by simpa using c1)]
      cases List.find? (fun p => !lt p.1 k) l.toList <;> simp [Tr.top?]
end laws

/-! ### Keys that are the multiples of a gap -/
def seqL (gap : Int) (a n : Nat) : List (Int × Int) := (List.range' a n).map fun j : Nat => (gap * (j : Int), (j : Int))

theorem seqL_sorted {gap : Int} (hg : 1 ≤ gap) (a n : Nat) : Sorted (fun a b : Int => decide (a < b)) (seqL gap a n) := by
  unfold Sorted seqL
  rw [List.pairwise_map]
  refine List.Pairwise.imp ?_ (List.pairwise_lt_range' (s := a) (n := n))
  intro x y h
  simp only [decide_eq_true_eq]
  exact Int.mul_lt_mul_of_pos_left (by omega) (by omega)
theorem seqL_end {gap : Int} (hg : 1 ≤ gap) (a n : Nat) : insL (fun a b : Int => decide (a < b)) (gap * ((a + n : Nat) : Int)) ((a + n : Nat) : Int) (seqL gap a n) = seqL gap a (n + 1) := by
  have h := insL_append_right strict_int (k := gap * ((a + n : Nat) : Int)) (v := ((a + n : Nat) : Int)) (seqL gap a n) [] (by
    intro p hp
    obtain ⟨j, hj, rfl⟩ := List.mem_map.1 hp
    have := List.mem_range'_1.1 hj
    simp only [decide_eq_true_eq]
    exact Int.mul_lt_mul_of_pos_left (by omega) (by omega))
  rw [List.append_nil] at h
  rw [h]
  simp [seqL, insL, List.range'_concat, List.map_append]
theorem seqL_front {gap : Int} (hg : 1 ≤ gap) (a n : Nat) : insL (fun a b : Int => decide (a < b)) (gap * (a : Int)) (a : Int) (seqL gap (a + 1) n) = seqL gap a (n + 1) := by
  cases n with
  | zero => simp [seqL, insL]
  | succ n =>
    have : gap * (a : Int) < gap * ((a + 1 : Nat) : Int) := Int.mul_lt_mul_of_pos_left (by omega) (by omega)
    simp only [seqL, List.range'_succ, List.map_cons, insL]
    rw [if_pos (by simpa using this)]
theorem seqL_split (gap : Int) (a m n : Nat) : seqL gap a (m + n) = seqL gap a m ++ seqL gap (a + m) n := by
  unfold seqL; rw [← List.map_append]; congr 1
  rw [List.range'_append_1]
theorem seqL_floor {gap : Int} (hg : 1 ≤ gap) {i n : Nat} (hi : i < n) : floorL (fun a b : Int => decide (a < b)) (gap * (i : Int) + gap - 1) (seqL gap 0 n) = some (gap * (i : Int), (i : Int)) := by
  obtain ⟨m, rfl⟩ : ∃ m, n = (i + 1) + m := ⟨n - (i + 1), by omega⟩
  rw [seqL_split]
  unfold floorL
  rw [takeWhile_append_all _ _ (by
    intro p hp
    obtain ⟨j, hj, rfl⟩ := List.mem_map.1 hp
    have := List.mem_range'_1.1 hj
    have : gap * (j : Int) ≤ gap * (i : Int) := Int.mul_le_mul_of_nonneg_left (by omega) (by omega)
    simp; omega)]
  have e : (seqL gap (0 + (i + 1)) m).takeWhile (fun p => !decide (gap * (i : Int) + gap - 1 < p.1)) = [] := by
    cases m with
    | zero => rfl
    | succ m =>
      simp only [seqL, List.range'_succ, List.map_cons, List.takeWhile_cons]
      rw [if_neg]
      have : gap * ((0 + (i + 1) : Nat) : Int) = gap * (i : Int) + gap := by rw [Nat.zero_add]; simp [Int.mul_add]
      rw [this]; simp; omega
  rw [e, List.append_nil]
  simp [seqL, List.range'_concat]
theorem seqL_ceil {gap : Int} (hg : 1 ≤ gap) {i n : Nat} (hi : i < n) : ceilL (fun a b : Int => decide (a < b)) (gap * (i : Int) - gap + 1) (seqL gap 0 n) = some (gap * (i : Int), (i : Int)) := by
  obtain ⟨m, rfl⟩ : ∃ m, n = i + (m + 1) := ⟨n - (i + 1), by omega⟩
  rw [seqL_split]
  unfold ceilL
  rw [find_append_none _ _ (by
    intro p hp
    obtain ⟨j, hj, rfl⟩ := List.mem_map.1 hp
    have := List.mem_range'_1.1 hj
    have h1 : gap * ((j + 1 : Nat) : Int) ≤ gap * (i : Int) := Int.mul_le_mul_of_nonneg_left (by omega) (by omega)
    have h2 : gap * ((j + 1 : Nat) : Int) = gap * (j : Int) + gap := by simp [Int.mul_add]
    simp; omega)]
  simp only [seqL, List.range'_succ, List.map_cons]
  rw [List.find?_cons_of_pos (by simp; omega)]
  simp

end Go.Proofs.Ytlfodhejpbjfcaa
namespace Go.Proofs.Ytlfodhejpbjfcaa
open Go.RowKit
variable {κ ν : Type}

/-- The least entry of a node, and the tree without it. -/
def cutF : Tr κ ν → κ → ν → Tr κ ν → (κ × ν) × Tr κ ν
  | .nil, k, v, r => ((k, v), r)
  | .node l' k' v' r', k, v, r => ((cutF l' k' v' r').1, levelF (cutF l' k' v' r').2 k v r)
def dropF (lt : κ → κ → Bool) (k : κ) : Tr κ ν → Tr κ ν
  | .nil => .nil
  | .node l nk nv r =>
    if lt k nk then levelF (dropF lt k l) nk nv r
    else if lt nk k then levelF l nk nv (dropF lt k r)
    else match r with
      | .nil => l
      | .node rl rk rv rr => levelF l (cutF rl rk rv rr).1.1 (cutF rl rk rv rr).1.2 (cutF rl rk rv rr).2
/-- What the method Drop leaves. -/
def dropM (lt : κ → κ → Bool) (k : κ) (T : Tr κ ν) : Tr κ ν := match findF lt k T with | .nil => T | _ => dropF lt k T

theorem dropF_l {lt : κ → κ → Bool} {k nk : κ} {l r : Tr κ ν} {nv : ν} (h : lt k nk = true) : dropF lt k (.node l nk nv r) = levelF (dropF lt k l) nk nv r := by
  conv => lhs; unfold dropF
  rw [if_pos h]
theorem dropF_r {lt : κ → κ → Bool} {k nk : κ} {l r : Tr κ ν} {nv : ν} (h1 : ¬ lt k nk = true) (h : lt nk k = true) : dropF lt k (.node l nk nv r) = levelF l nk nv (dropF lt k r) := by
  conv => lhs; unfold dropF
  rw [if_neg h1, if_pos h]
theorem dropF_0 {lt : κ → κ → Bool} {k nk : κ} {l : Tr κ ν} {nv : ν} (h1 : ¬ lt k nk = true) (h2 : ¬ lt nk k = true) : dropF lt k (.node l nk nv .nil) = l := by
  unfold dropF
  rw [if_neg h1, if_neg h2]
theorem dropF_n {lt : κ → κ → Bool} {k nk rk : κ} {l rl rr : Tr κ ν} {nv rv : ν} (h1 : ¬ lt k nk = true) (h2 : ¬ lt nk k = true) : dropF lt k (.node l nk nv (.node rl rk rv rr)) = levelF l (cutF rl rk rv rr).1.1 (cutF rl rk rv rr).1.2 (cutF rl rk rv rr).2 := by
  unfold dropF
  rw [if_neg h1, if_neg h2]
theorem cutF_toList : ∀ (l : Tr κ ν) (k : κ) (v : ν) (r : Tr κ ν), l.toList ++ (k, v) :: r.toList = (cutF l k v r).1 :: (cutF l k v r).2.toList
  | .nil, k, v, r => rfl
  | .node l' k' v' r', k, v, r => by
    have ih := cutF_toList l' k' v' r'
    simp only [cutF, levelF_toList, Tr.toList, ih, List.cons_append]
theorem cutF_sz (l : Tr κ ν) (k : κ) (v : ν) (r : Tr κ ν) : (cutF l k v r).2.sz = l.sz + r.sz := by
  have := congrArg List.length (cutF_toList l k v r)
  rw [Tr.sz_eq, l.sz_eq, r.sz_eq]
  simp at this; omega
theorem dropF_sz (lt : κ → κ → Bool) (k : κ) : ∀ T : Tr κ ν, (dropF lt k T).sz ≤ T.sz
  | .nil => by simp [dropF, Tr.sz]
  | .node l nk nv r => by
    have hl := dropF_sz lt k l; have hr := dropF_sz lt k r
    have := l.sz_nonneg; have := r.sz_nonneg
    unfold dropF
    split
    · rw [levelF_sz]; simp only [Tr.sz]; omega
    · split
      · rw [levelF_sz]; simp only [Tr.sz]; omega
      · cases r with
        | nil => simp only [Tr.sz]; omega
        | node rl rk rv rr => simp only [levelF_sz, cutF_sz, Tr.sz] at *; omega
theorem dropM_sz (lt : κ → κ → Bool) (k : κ) (T : Tr κ ν) : (dropM lt k T).sz ≤ T.sz := by
  unfold dropM; split
  · exact Int.le_refl _
  · exact dropF_sz lt k T

/-- A list without a key. -/
def delL (lt : κ → κ → Bool) (k : κ) (l : List (κ × ν)) : List (κ × ν) := l.filter fun p => lt k p.1 || lt p.1 k

section laws
variable {lt : κ → κ → Bool} (hs : Strict lt)
include hs
omit hs in
theorem delL_append (k : κ) (l r : List (κ × ν)) : delL lt k (l ++ r) = delL lt k l ++ delL lt k r := by simp [delL]
omit hs in
theorem delL_all {k : κ} {l : List (κ × ν)} (h : ∀ p ∈ l, lt k p.1 = true ∨ lt p.1 k = true) : delL lt k l = l := by
  unfold delL; rw [List.filter_eq_self]; intro p hp; rcases h p hp with h | h <;> simp [h]
theorem dropF_toList (k : κ) : ∀ T : Tr κ ν, Sorted lt T.toList → (dropF lt k T).toList = delL lt k T.toList
  | .nil, _ => rfl
  | .node l nk nv r, h => by
    obtain ⟨h1, h2, h3, h4⟩ := sorted_node h
    unfold dropF
    simp only [Tr.toList]
    by_cases c1 : lt k nk = true
    · rw [if_pos c1, levelF_toList, dropF_toList k l h1, delL_append]
      congr 1
      exact (delL_all (by
        intro p hp
        rcases List.mem_cons.1 hp with rfl | hp
        · exact .inl c1
        · exact .inl (hs.trans _ _ _ c1 (h4 p hp)))).symm
    · rw [if_neg c1]
      by_cases c2 : lt nk k = true
      · rw [if_pos c2, levelF_toList, dropF_toList k r h2, delL_append]
        rw [delL_all (l := l.toList) fun p hp => .inr (hs.trans _ _ _ (h3 p hp) c2)]
        congr 1
        simp [delL, c2]
      · rw [if_neg c2]
        have e := hs.total k nk (by simpa using c1) (by simpa using c2)
        subst e
        rw [delL_append, delL_all (l := l.toList) fun p hp => .inr (h3 p hp)]
        have e2 : delL lt k ((k, nv) :: r.toList) = r.toList := by
          have := delL_all (lt := lt) (k := k) (l := r.toList) fun p hp => .inl (h4 p hp)
          unfold delL at *
          rw [List.filter_cons_of_neg (by simp [hs.irrefl]), this]
        rw [e2]
        cases r with
        | nil => simp [Tr.toList]
        | node rl rk rv rr =>
          simp only [levelF_toList]
          show _ = l.toList ++ (rl.toList ++ (rk, rv) :: rr.toList)
          rw [cutF_toList rl rk rv rr]
omit hs in
theorem delL_none {k : κ} {l : List (κ × ν)} (h : lookL lt k l = none) : delL lt k l = l := by
  refine delL_all fun p hp => ?_
  have := List.find?_eq_none.1 h p hp
  simp at this
  cases e : lt k p.1 with
  | true => exact .inl rfl
  | false => exact .inr (this e)
theorem dropM_toList (k : κ) (T : Tr κ ν) (h : Sorted lt T.toList) : (dropM lt k T).toList = delL lt k T.toList := by
  have hf := findF_top hs k T h
  unfold dropM
  split
  · rename_i e
    rw [e] at hf
    exact (delL_none hf.symm).symm
  · exact dropF_toList hs k T h
omit hs in
theorem delL_sorted {k : κ} {l : List (κ × ν)} (h : Sorted lt l) : Sorted lt (delL lt k l) := List.Pairwise.filter _ h
end laws

/-- The first and the last entry. -/
def minF : Tr κ ν → Tr κ ν
  | .nil => .nil
  | .node .nil k v r => .node .nil k v r
  | .node (.node a b c d) _ _ _ => minF (.node a b c d)
def maxF : Tr κ ν → Tr κ ν
  | .nil => .nil
  | .node l k v .nil => .node l k v .nil
  | .node _ _ _ (.node a b c d) => maxF (.node a b c d)
theorem minF_top : ∀ T : Tr κ ν, (minF T).top? = T.toList.head?
  | .nil => rfl
  | .node .nil k v r => rfl
  | .node (.node a b c d) k v r => by
    rw [minF, minF_top (.node a b c d)]
    simp [Tr.toList, List.head?_append]
theorem maxF_top : ∀ T : Tr κ ν, (maxF T).top? = T.toList.getLast?
  | .nil => rfl
  | .node l k v .nil => by simp [maxF, Tr.top?, Tr.toList]
  | .node l k v (.node a b c d) => by
    rw [maxF, maxF_top (.node a b c d)]
    conv => rhs; rw [Tr.toList, List.getLast?_append, List.getLast?_cons]
    cases h : (Tr.node a b c d).toList.getLast? with
    | none => simp [Tr.toList] at h
    | some x => rfl
end Go.Proofs.Ytlfodhejpbjfcaa
namespace Go.Proofs.Ytlfodhejpbjfcaa
open Go.RowKit
namespace S
/-- The order of the names. -/
abbrev blt (a b : ByteArray) : Bool := Op.bytesLess a.toList b.toList
def app1 (T : Tr ByteArray Int) (p : ByteArray × (Int × Bool)) : Tr ByteArray Int := if p.2.2 then dropM (fun a b : ByteArray => Op.bytesLess a.toList b.toList) p.1 T else putF (fun a b : ByteArray => Op.bytesLess a.toList b.toList) p.1 p.2.1 T
def appN (T : Tr ByteArray Int) (L : List (ByteArray × (Int × Bool))) : Tr ByteArray Int := L.foldl app1 T
def lastN (m : List (ByteArray × Int)) (n : Int) (L : List (ByteArray × (Int × Bool))) : List (ByteArray × Int) := L.foldl (fun m p => putA p.1 n m) m
theorem app1_sz (T : Tr ByteArray Int) (p : ByteArray × (Int × Bool)) : (app1 T p).sz ≤ T.sz + 1 := by
  unfold app1
  split
  · have := dropM_sz (fun a b : ByteArray => Op.bytesLess a.toList b.toList) p.1 T; omega
  · have := putF_sz (fun a b : ByteArray => Op.bytesLess a.toList b.toList) p.1 p.2.1 T; omega
theorem appN_sz (L : List (ByteArray × (Int × Bool))) : ∀ T : Tr ByteArray Int, (appN T L).sz ≤ T.sz + L.length := by
  induction L with
  | nil => intro T; simp [appN]
  | cons p L ih =>
    intro T
    have h1 := ih (app1 T p); have h2 := app1_sz T p
    simp only [appN, List.foldl_cons, List.length_cons] at h1 ⊢
    omega
theorem appN_snoc (T : Tr ByteArray Int) (L : List (ByteArray × (Int × Bool))) (p : ByteArray × (Int × Bool)) : appN T (L ++ [p]) = app1 (appN T L) p := by simp [appN, List.foldl_append]
theorem lastN_snoc (m : List (ByteArray × Int)) (n : Int) (L : List (ByteArray × (Int × Bool))) (p : ByteArray × (Int × Bool)) : lastN m n (L ++ [p]) = putA p.1 n (lastN m n L) := by simp [lastN, List.foldl_append]
theorem lastN_length (n : Int) (L : List (ByteArray × (Int × Bool))) : ∀ m : List (ByteArray × Int), (lastN m n L).length ≤ m.length + L.length := by
  induction L with
  | nil => intro m; simp [lastN]
  | cons p L ih =>
    intro m
    have h1 := ih (putA p.1 n m); have h2 := putA_length (s := p.1) (a := n) (l := m)
    simp only [lastN, List.foldl_cons, List.length_cons] at h1 ⊢
    omega
/-- The version that changed a name last: 0 where none did. -/
def lastOf (m : List (ByteArray × Int)) (s : ByteArray) : Int := (getA s m).getD 0
/-- Somebody has committed a change of one of these names behind version n. -/
def conf {α : Type} (m : List (ByteArray × Int)) (n : Int) (L : List (ByteArray × α)) : Bool := L.any fun p => decide (n < lastOf m p.1)
theorem conf_perm {α : Type} {m : List (ByteArray × Int)} {n : Int} {L L' : List (ByteArray × α)} (h : L.Perm L') : conf m n L = conf m n L' := h.any_eq
theorem conf_cons {α : Type} {m : List (ByteArray × Int)} {n : Int} {p : ByteArray × α} {L : List (ByteArray × α)} : conf m n (p :: L) = (decide (n < lastOf m p.1) || conf m n L) := rfl
end S
end Go.Proofs.Ytlfodhejpbjfcaa
