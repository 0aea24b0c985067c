/- Plain trees: what layer 8's functions compute, and that a tree answers as a sorted list. No program. -/
import Derived.Below
namespace Go.Proofs.Ytlfodhejpbjfcaa
open Go.RowKit

inductive Tr (κ ν : Type) : Type where
  | nil : Tr κ ν
  | node (l : Tr κ ν) (k : κ) (v : ν) (r : Tr κ ν) : Tr κ ν

variable {κ ν : Type}

def Tr.ht : Tr κ ν → Int
  | .nil => 0
  | .node l _ _ r => 1 + max l.ht r.ht
def Tr.sz : Tr κ ν → Int
  | .nil => 0
  | .node l _ _ r => 1 + l.sz + r.sz
def Tr.toList : Tr κ ν → List (κ × ν)
  | .nil => []
  | .node l k v r => l.toList ++ (k, v) :: r.toList

theorem Tr.ht_nonneg : ∀ T : Tr κ ν, 0 ≤ T.ht
  | .nil => by simp [Tr.ht]
  | .node l _ _ r => by have := l.ht_nonneg; have := r.ht_nonneg; simp only [Tr.ht]; omega
theorem Tr.ht_le_sz : ∀ T : Tr κ ν, T.ht ≤ T.sz
  | .nil => by simp [Tr.ht, Tr.sz]
  | .node l _ _ r => by
    have := l.ht_le_sz; have := r.ht_le_sz; have := l.ht_nonneg; have := r.ht_nonneg
    simp only [Tr.ht, Tr.sz]; omega
theorem Tr.sz_nonneg (T : Tr κ ν) : 0 ≤ T.sz := Int.le_trans T.ht_nonneg T.ht_le_sz
theorem Tr.sz_eq : ∀ T : Tr κ ν, T.sz = T.toList.length
  | .nil => by simp [Tr.toList, Tr.sz]
  | .node l _ _ r => by have := l.sz_eq; have := r.sz_eq; simp only [Tr.toList, Tr.sz, List.length_append, List.length_cons]; omega
theorem Tr.ht_zero : ∀ {T : Tr κ ν}, T.ht ≤ 0 → T = .nil
  | .nil, _ => rfl
  | .node l _ _ r, h => by have := l.ht_nonneg; have := r.ht_nonneg; simp only [Tr.ht] at h; omega

/-- A tree of nodes lies in memory at p: six cells a node, of type nt. -/
def IsT (ek : κ → Value) (ev : ν → Value) (nt : TypeId) (W : World) : Option Addr → Tr κ ν → Prop
  | p, .nil => p = none
  | p, .node l k v r => ∃ (b : Nat) (pl pr : Option Addr), p = some ⟨b, 0, none⟩ ∧
      W.heap[b]? = some (.cells #[ek k, ev v, .pointer pl, .pointer pr, .int .i64 (1 + max l.ht r.ht), .int .i64 (1 + l.sz + r.sz)] nt (0, 0)) ∧
      IsT ek ev nt W pl l ∧ IsT ek ev nt W pr r

/-- No block of type nt that lay has turned. -/
def KeepT (nt : TypeId) (W W' : World) : Prop := ∀ (b : Nat) (cs : Array Value) (fz : Nat × Nat), W.heap[b]? = some (.cells cs nt fz) → W'.heap[b]? = some (.cells cs nt fz)

theorem KeepT.refl (nt : TypeId) (W : World) : KeepT nt W W := fun _ _ _ h => h
theorem KeepT.trans {nt : TypeId} {A B C : World} (h : KeepT nt A B) (k : KeepT nt B C) : KeepT nt A C := fun b cs fz e => k b cs fz (h b cs fz e)
theorem KeepT.below {nt : TypeId} {A B : World} (h : Below A.heap.size A B) : KeepT nt A B := fun b cs fz e => by
  have hb : b < A.heap.size := (Array.getElem?_eq_some_iff.1 e).1
  rw [h.block b hb]; exact e
theorem KeepT.drew {nt : TypeId} {A B : World} (h : KeepT nt A B) : KeepT nt A B.drew := h
theorem KeepT.setCell {nt : TypeId} {W : World} {a : Addr} {v : Value} {cs : Array Value} {t : TypeId} {fz : Nat × Nat} (h : W.heap[a.block]? = some (.cells cs t fz)) (ht : t ≠ nt) : KeepT nt W (W.setCell a v) := fun b cs' fz' e => by
  have hb : b ≠ a.block := by
    intro eb; subst eb; rw [h] at e; simp at e; exact ht e.2.1
  rw [Below.heap_setCell _ _ _ _ hb]; exact e

theorem IsT.keep {ek : κ → Value} {ev : ν → Value} {nt : TypeId} {A B : World} (h : KeepT nt A B) : ∀ {p : Option Addr} {T : Tr κ ν}, IsT ek ev nt A p T → IsT ek ev nt B p T
  | _, .nil, ht => ht
  | _, .node _ _ _ _, ⟨b, pl, pr, hp, hc, hl, hr⟩ => ⟨b, pl, pr, hp, h _ _ _ hc, IsT.keep h hl, IsT.keep h hr⟩
theorem IsT.below {ek : κ → Value} {ev : ν → Value} {nt : TypeId} {A B : World} (h : Below A.heap.size A B) {p : Option Addr} {T : Tr κ ν} (t : IsT ek ev nt A p T) : IsT ek ev nt B p T := t.keep (KeepT.below h)

/-- What a node's block gives to the walk. -/
theorem node_cells {W : World} {b : Nat} {k v l r h c : Value} {nt : TypeId} (hb : W.heap[b]? = some (.cells #[k, v, l, r, h, c] nt (0, 0))) :
    W.cell? ⟨b, 0, none⟩ = some k ∧ W.cell? ⟨b, 1, none⟩ = some v ∧ W.cell? ⟨b, 2, none⟩ = some l ∧ W.cell? ⟨b, 3, none⟩ = some r ∧ W.cell? ⟨b, 4, none⟩ = some h ∧ W.cell? ⟨b, 5, none⟩ = some c := by
  refine ⟨?_, ?_, ?_, ?_, ?_, ?_⟩ <;> simp [World.cell?, hb]
theorem heap_new (W : World) (o : Obj) : (W.alloc o).heap[W.heap.size]? = some o := by
  show (W.heap.push o)[W.heap.size]? = _
  simp
theorem Below.step {A B C : World} (h : Below A.heap.size A B) (k : Below B.heap.size B C) : Below A.heap.size A C := h.trans (k.mono h.size)

/-- What level makes of two subtrees. -/
def levelF (L : Tr κ ν) (k : κ) (v : ν) (R : Tr κ ν) : Tr κ ν :=
  if R.ht + 1 < L.ht then
    match L with
    | .nil => .node L k v R
    | .node ll lk lv lr =>
      if lr.ht ≤ ll.ht then .node ll lk lv (.node lr k v R) else
      match lr with
      | .nil => .node L k v R
      | .node a tk tv b => .node (.node ll lk lv a) tk tv (.node b k v R)
  else if L.ht + 1 < R.ht then
    match R with
    | .nil => .node L k v R
    | .node rl rk rv rr =>
      if rl.ht ≤ rr.ht then .node (.node L k v rl) rk rv rr else
      match rl with
      | .nil => .node L k v R
      | .node a tk tv b => .node (.node L k v a) tk tv (.node b rk rv rr)
  else .node L k v R

theorem levelF_toList (L : Tr κ ν) (k : κ) (v : ν) (R : Tr κ ν) : (levelF L k v R).toList = L.toList ++ (k, v) :: R.toList := by
  unfold levelF
  repeat' split
  all_goals simp [Tr.toList]
theorem levelF_sz (L : Tr κ ν) (k : κ) (v : ν) (R : Tr κ ν) : (levelF L k v R).sz = 1 + L.sz + R.sz := by
  rw [Tr.sz_eq, levelF_toList, L.sz_eq, R.sz_eq]; simp; omega

/-- The heights of siblings differ by at most 1. -/
def Bal : Tr κ ν → Prop
  | .nil => True
  | .node l _ _ r => Bal l ∧ Bal r ∧ l.ht ≤ r.ht + 1 ∧ r.ht ≤ l.ht + 1

theorem levelF_bal {L : Tr κ ν} {k : κ} {v : ν} {R : Tr κ ν} (hL : Bal L) (hR : Bal R) (h1 : L.ht ≤ R.ht + 2) (h2 : R.ht ≤ L.ht + 2) :
    Bal (levelF L k v R) ∧ max L.ht R.ht ≤ (levelF L k v R).ht ∧ (levelF L k v R).ht ≤ 1 + max L.ht R.ht := by
  unfold levelF
  split
  · cases L with
    | nil => have := R.ht_nonneg; simp only [Tr.ht] at *; omega
    | node ll lk lv lr =>
      simp only [Tr.ht, Bal] at *
      split
      · simp only [Tr.ht, Bal]; refine ⟨⟨hL.1, ⟨hL.2.1, hR, ?_, ?_⟩, ?_, ?_⟩, ?_, ?_⟩ <;> omega
      · cases lr with
        | nil => have := ll.ht_nonneg; simp only [Tr.ht] at *; omega
        | node a tk tv b =>
          simp only [Tr.ht, Bal] at *
          refine ⟨⟨⟨hL.1, hL.2.1.1, ?_, ?_⟩, ⟨hL.2.1.2.1, hR, ?_, ?_⟩, ?_, ?_⟩, ?_, ?_⟩ <;> omega
  · split
    · cases R with
      | nil => have := L.ht_nonneg; simp only [Tr.ht] at *; omega
      | node rl rk rv rr =>
        simp only [Tr.ht, Bal] at *
        split
        · simp only [Tr.ht, Bal]; refine ⟨⟨⟨hL, hR.1, ?_, ?_⟩, hR.2.1, ?_, ?_⟩, ?_, ?_⟩ <;> omega
        · cases rl with
          | nil => have := rr.ht_nonneg; simp only [Tr.ht] at *; omega
          | node a tk tv b =>
            simp only [Tr.ht, Bal] at *
            refine ⟨⟨⟨hL, hR.1.1, ?_, ?_⟩, ⟨hR.1.2.1, hR.2.1, ?_, ?_⟩, ?_, ?_⟩, ?_, ?_⟩ <;> omega
    · simp only [Tr.ht, Bal]; refine ⟨⟨hL, hR, ?_, ?_⟩, ?_, ?_⟩ <;> omega

/-! ### The functions -/
section fns
variable (lt : κ → κ → Bool)

def putF (k : κ) (v : ν) : Tr κ ν → Tr κ ν
  | .nil => .node .nil k v .nil
  | .node l nk nv r =>
    if lt k nk then levelF (putF k v l) nk nv r
    else if lt nk k then levelF l nk nv (putF k v r)
    else .node l k v r

def findF (k : κ) : Tr κ ν → Tr κ ν
  | .nil => .nil
  | .node l nk nv r => if lt k nk then findF k l else if lt nk k then findF k r else .node l nk nv r

def floorF (k : κ) : Tr κ ν → Tr κ ν → Tr κ ν
  | best, .nil => best
  | best, .node l nk nv r => if lt k nk then floorF k best l else floorF k (.node l nk nv r) r
def ceilF (k : κ) : Tr κ ν → Tr κ ν → Tr κ ν
  | best, .nil => best
  | best, .node l nk nv r => if lt nk k then ceilF k best r else ceilF k (.node l nk nv r) l

end fns

def Tr.top? : Tr κ ν → Option (κ × ν)
  | .nil => none
  | .node _ k v _ => some (k, v)

theorem putF_sz (lt : κ → κ → Bool) (k : κ) (v : ν) : ∀ T : Tr κ ν, T.sz ≤ (putF lt k v T).sz ∧ (putF lt k v T).sz ≤ 1 + T.sz
  | .nil => by simp [putF, Tr.sz]
  | .node l nk nv r => by
    have hl := putF_sz lt k v l; have hr := putF_sz lt k v r
    unfold putF; split
    · rw [levelF_sz]; simp only [Tr.sz]; omega
    · split
      · rw [levelF_sz]; simp only [Tr.sz]; omega
      · simp only [Tr.sz]; omega

end Go.Proofs.Ytlfodhejpbjfcaa
