/- Stacks of copies of texts: what they derive; a list's last element turned in place. No walk. -/
import Derived.Test.YtpjcfepngjpfbaaPartsP
import Derived.Test.YtpjcfepngjpfbaaAvlP
import Derived.Test.YtpjcfepngjpfbaaSlices
namespace Go.Proofs.Ytpjcfepngjpfbaa
open Go.RowKit
/-- The last element of a list of the call's own is turned in place. -/
theorem SlA.last {α : Type} {B₀ : Nat} {W : World} {e : TypeId} {size : Nat} {enc : α → List Value} (he : ∀ a, (enc a).length = size) {g n cap : Nat} {l : List α} {x y : α} (h : SlA B₀ W e size enc (.slice (some ⟨g, 0, none⟩) n cap) (l ++ [x])) {j : Nat} (hj : j < size) {u : Value} (hy : enc y = (enc x).set j u) :
    SlA B₀ (W.setCell ⟨g, l.length * size + j, none⟩ u) e size enc (.slice (some ⟨g, 0, none⟩) n cap) (l ++ [y]) := by
  refine ⟨flatMap_len he _, ?_⟩
  rcases h.2 with ⟨hv, -⟩ | ⟨g', c, cur, hv, hb, hg, h1, h2, h3, h4⟩
  · cases hv
  · rw [List.length_append, List.length_singleton] at hv h1 h4
    cases hv
    refine .inr ⟨g, cap, cur.setIfInBounds (l.length * size + j) u, by simp, hb, heap_set0 _ hg, by simpa using h1, h2, by simpa using h3, ?_⟩
    rw [List.length_append, List.length_singleton, Array.toList_setIfInBounds, List.take_set, h4, List.flatMap_append, List.flatMap_append]
    have e1 : (l.flatMap enc).length = l.length * size := flatMap_len he l
    rw [List.set_append_right _ _ (by omega), e1, Nat.add_sub_cancel_left]
    simp [hy]
namespace M
/-- So many copies of a text. -/
structure Cp where
  id : Nat
  times : Nat
/-- What a stack derives: the last one first. -/
def dn (E : List En) : List Cp → List Nat
  | [] => []
  | c :: L => dn E L ++ rep c.times (txt E c.id)
theorem dn_snoc (E : List En) (L : List Cp) (c : Cp) : dn E (L ++ [c]) = rep c.times (txt E c.id) ++ dn E L := by
  induction L with
  | nil => show dn E [] ++ rep c.times (txt E c.id) = rep c.times (txt E c.id) ++ []; rw [List.append_nil]; rfl
  | cons a L ih => show dn E (L ++ [c]) ++ rep a.times (txt E a.id) = rep c.times (txt E c.id) ++ (dn E L ++ rep a.times (txt E a.id)); rw [ih, List.append_assoc]
/-- What is left of a stack when its uppermost text is taken once. -/
def popC (L : List Cp) (c : Cp) : List Cp := if c.times = 1 then L else L ++ [⟨c.id, c.times - 1⟩]
theorem dn_pop (E : List En) (L : List Cp) (c : Cp) (h : 0 < c.times) : dn E (L ++ [c]) = txt E c.id ++ dn E (popC L c) := by
  unfold popC
  rw [dn_snoc]
  by_cases h1 : c.times = 1
  · rw [if_pos h1, h1, rep_one]
  · rw [if_neg h1, dn_snoc]
    obtain ⟨k, hk⟩ : ∃ k, c.times = k + 1 := ⟨c.times - 1, by omega⟩
    rw [hk, rep_succ, Nat.add_sub_cancel, List.append_assoc]
/-- An entry of a stack. -/
structure OkC (E : List En) (c : Cp) : Prop where
  pos : 0 < c.id
  le : c.id ≤ E.length
  one : 0 < c.times
  most : c.times ≤ 1152921504606846976
/-- Stacks do not grow high: who stands high has a small number. -/
structure StkC (E : List En) (L : List Cp) : Prop where
  ok : ∀ c ∈ L, OkC E c
  low : ∀ (p : Nat) (h : p < L.length), p + 1 + 3 * L[p].id ≤ 3 * E.length + 3
theorem StkC.nil (E : List En) : StkC E [] := ⟨fun c h => (by cases h), fun p h => (by cases h)⟩
theorem StkC.init {E : List En} {L : List Cp} {c : Cp} (h : StkC E (L ++ [c])) : StkC E L :=
  ⟨fun x hx => h.ok x (List.mem_append_left _ hx), fun p hp => by
    have := h.low p (by rw [List.length_append]; omega)
    rwa [List.getElem_append_left hp] at this⟩
theorem StkC.top {E : List En} {L : List Cp} {c : Cp} (h : StkC E (L ++ [c])) : OkC E c ∧ L.length + 1 + 3 * c.id ≤ 3 * E.length + 3 := by
  refine ⟨h.ok c (by simp), ?_⟩
  have := h.low L.length (by simp)
  simpa using this
theorem StkC.push {E : List En} {L : List Cp} (h : StkC E L) {c : Cp} (hc : OkC E c) (hl : L.length + 1 + 3 * c.id ≤ 3 * E.length + 3) : StkC E (L ++ [c]) := by
  refine ⟨fun x hx => ?_, fun p hp => ?_⟩
  · rcases List.mem_append.1 hx with g | g
    · exact h.ok x g
    · rw [List.mem_singleton.1 g]; exact hc
  · by_cases g : p < L.length
    · rw [List.getElem_append_left g]; exact h.low p g
    · have e : p = L.length := by simp at hp; omega
      subst e
      simpa using hl
theorem StkC.pop {E : List En} {L : List Cp} {c : Cp} (h : StkC E (L ++ [c])) : StkC E (popC L c) ∧ (popC L c).length ≤ L.length + 1 := by
  unfold popC
  split
  · exact ⟨h.init, by omega⟩
  · rename_i h1
    have ht := h.top
    exact ⟨h.init.push ⟨ht.1.pos, ht.1.le, by have := ht.1.one; dsimp only; omega, by have := ht.1.most; dsimp only; omega⟩ ht.2, by simp⟩
theorem StkC.len {E : List En} {L : List Cp} (h : StkC E L) : L.length ≤ 3 * E.length + 3 := by
  rcases List.eq_nil_or_concat L with rfl | ⟨L', c, rfl⟩
  · simp
  · rw [List.concat_eq_append] at h ⊢
    have := h.top.2
    rw [List.length_append, List.length_singleton]; omega
/-- How much work a stack is. -/
def wkC (E : List En) : List Cp → Nat
  | [] => 0
  | c :: L => wkC E L + c.times * (2 * (txt E c.id).length - 1)
theorem wkC_snoc (E : List En) (L : List Cp) (c : Cp) : wkC E (L ++ [c]) = wkC E L + c.times * (2 * (txt E c.id).length - 1) := by
  induction L with
  | nil => simp [wkC]
  | cons a L ih => show wkC E (L ++ [c]) + _ = wkC E L + _ + _; rw [ih]; omega
theorem wkC_pop (E : List En) (L : List Cp) (c : Cp) (h : 0 < c.times) : wkC E (L ++ [c]) = (2 * (txt E c.id).length - 1) + wkC E (popC L c) := by
  unfold popC
  rw [wkC_snoc]
  by_cases h1 : c.times = 1
  · rw [if_pos h1, h1]; omega
  · rw [if_neg h1, wkC_snoc]
    obtain ⟨k, hk⟩ : ∃ k, c.times = k + 1 := ⟨c.times - 1, by omega⟩
    rw [hk, Nat.add_sub_cancel, Nat.succ_mul]; dsimp only; omega
/-- A Pair's parts are less work. -/
theorem wk_pair {a b : Nat} (ha : 0 < a) (hb : 0 < b) : (2 * a - 1) + (2 * b - 1) < 2 * (a + b) - 1 := by omega
theorem wk_power {t a : Nat} (ht : 2 ≤ t) (ha : 0 < a) : t * (2 * a - 1) < 2 * (t * a) - 1 := by
  have h1 : t * (2 * a - 1) = 2 * (t * a) - t := by rw [Nat.mul_sub, Nat.mul_one]; congr 1; rw [Nat.mul_left_comm]
  have h2 : t ≤ t * a := Nat.le_mul_of_pos_right _ ha
  omega
/-- What follows an offset of a power. -/
theorem rep_drop_at {t : List Nat} (ht : 0 < t.length) {n f : Nat} (hf : f < n * t.length) : (rep n t).drop f = t.drop (f % t.length) ++ rep (n - 1 - f / t.length) t := by
  have hq : f / t.length < n := Nat.div_lt_of_lt_mul (by rw [Nat.mul_comm]; exact hf)
  have h := rep_drop t (f / t.length) (n - 1 - f / t.length) (f % t.length) (Nat.le_of_lt (Nat.mod_lt _ ht))
  rw [show f / t.length + 1 + (n - 1 - f / t.length) = n by omega, Nat.mul_comm, Nat.div_add_mod] at h
  exact h
end M
end Go.Proofs.Ytpjcfepngjpfbaa
