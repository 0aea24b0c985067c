/- A stack of copies, the next one at its end: what it spells. No walk. -/
import Derived.Test.YtjbllcakaljpgaaRuleP
import Derived.Test.YtjbllcakaljpgaaKeep
namespace Go.Proofs.Ytjbllcakaljpgaa
open Go.RowKit
namespace M
structure Cp where
  id : Nat
  times : Nat
def encCp (c : Cp) : List Value := [.int .i64 c.id, .int .i64 c.times]
theorem encCp_len (c : Cp) : (encCp c).length = 2 := rfl
theorem encCp_one (c : Cp) : ∀ u ∈ encCp c, u.oneCell' = true := by simp [encCp, Value.oneCell']
def denC (E : List En) (c : Cp) : List Nat := rep c.times (txt E c.id)
def denc (E : List En) : List Cp → List Nat
  | [] => []
  | a :: L => denc E L ++ denC E a
theorem denc_append (E : List En) (L M : List Cp) : denc E (L ++ M) = denc E M ++ denc E L := by
  induction L with
  | nil => show denc E M = denc E M ++ []; rw [List.append_nil]
  | cons a L ih => show denc E (L ++ M) ++ denC E a = denc E M ++ (denc E L ++ denC E a); rw [ih, List.append_assoc]
theorem denc_one (E : List En) (c : Cp) : denc E [c] = denC E c := rfl
def cst (E : List En) (i : Nat) : Nat := 2 * (txt E i).length - 1
def muc (E : List En) : List Cp → Nat
  | [] => 0
  | a :: L => muc E L + a.times * cst E a.id
theorem muc_append (E : List En) (L M : List Cp) : muc E (L ++ M) = muc E M + muc E L := by
  induction L with
  | nil => show muc E M = muc E M + 0; rfl
  | cons a L ih => show muc E (L ++ M) + a.times * cst E a.id = muc E M + (muc E L + a.times * cst E a.id); rw [ih]; omega
theorem muc_one (E : List En) (c : Cp) : muc E [c] = c.times * cst E c.id := by show 0 + _ = _; omega
/-- What a rule puts on the stack. -/
def kids (r : Ru) : List Cp := if r.kind = 1 then [] else if r.kind = 2 then [⟨r.right, 1⟩, ⟨r.left, 1⟩] else [⟨r.left, r.times⟩]
/-- What it spells at once. -/
def emit (r : Ru) : List Nat := if r.kind = 1 then [r.letter] else []
/-- The stack with one copy less of its last. -/
def dropC (L : List Cp) (s : Cp) : List Cp := if s.times = 1 then L else L ++ [⟨s.id, s.times - 1⟩]
def OkC (E : List En) (s : Cp) : Prop := 0 < s.id ∧ s.id ≤ E.length ∧ 0 < s.times ∧ s.times ≤ 1152921504606846976
theorem dropC_den {E : List En} {L : List Cp} {s : Cp} (h : OkC E s) : txt E s.id ++ denc E (dropC L s) = denc E (L ++ [s]) := by
  rw [denc_append, denc_one]
  have hr : denC E s = txt E s.id ++ rep (s.times - 1) (txt E s.id) := by
    unfold denC
    obtain ⟨-, -, h3, -⟩ := h
    obtain ⟨k, hk⟩ : ∃ k, s.times = k + 1 := ⟨s.times - 1, by omega⟩
    rw [hk, rep_succ, Nat.add_sub_cancel]
  rw [hr]
  unfold dropC
  split
  · rename_i h1
    rw [h1]
    show _ = (txt E s.id ++ []) ++ denc E L
    rw [List.append_nil]
  · rw [denc_append, denc_one]
    unfold denC
    rw [List.append_assoc]
theorem dropC_mu {E : List En} {L : List Cp} {s : Cp} (h : OkC E s) : muc E (dropC L s) + cst E s.id = muc E (L ++ [s]) := by
  rw [muc_append, muc_one]
  obtain ⟨-, -, h3, -⟩ := h
  obtain ⟨k, hk⟩ : ∃ k, s.times = k + 1 := ⟨s.times - 1, by omega⟩
  unfold dropC
  split
  · rename_i h1
    rw [h1]; omega
  · rw [muc_append, muc_one, hk, Nat.add_sub_cancel, Nat.succ_mul]; dsimp only; omega
theorem dropC_ok {E : List En} {L : List Cp} {s : Cp} (h : ∀ x ∈ L ++ [s], OkC E x) : ∀ x ∈ dropC L s, OkC E x := by
  intro x hx
  unfold dropC at hx
  split at hx
  · exact h x (List.mem_append_left _ hx)
  · rename_i h1
    rcases List.mem_append.1 hx with g | g
    · exact h x (List.mem_append_left _ g)
    · simp only [List.mem_singleton] at g
      subst g
      obtain ⟨a, b, c, d⟩ := h s (by simp)
      exact ⟨a, b, by dsimp only; omega, by dsimp only; omega⟩
/-- What one step does. -/
theorem spell_step {E : List En} (hwf : Wf E) {s : Cp} (h : OkC E s) : emit (entAt E s.id).ru ++ denc E (kids (entAt E s.id).ru) = txt E s.id ∧ muc E (kids (entAt E s.id).ru) < cst E s.id ∧ (∀ c ∈ kids (entAt E s.id).ru, OkC E c ∧ c.id < s.id) ∧ (kids (entAt E s.id).ru).length ≤ 2 := by
  obtain ⟨h1, h2, -, -⟩ := h
  have pos : ∀ i, 0 < i → i ≤ E.length → 0 < (txt E i).length := fun i a b => (hwf.get i a b).2.2.1
  rcases (hwf.rule s.id h1 h2).cases with ⟨a, -, -, -, -, g⟩ | ⟨a, -, c, d, f, g, -, l⟩ | ⟨a, -, c, d, -, f, g, l⟩
  · unfold emit kids
    rw [if_pos a, if_pos a, g]
    unfold cst
    rw [g]
    exact ⟨rfl, by show 0 < 2 * 1 - 1; omega, by simp, by simp⟩
  · have p1 := pos _ c (by omega); have p2 := pos _ f (by omega)
    unfold emit kids
    rw [if_neg (by omega), if_neg (by omega), if_pos a]
    refine ⟨?_, ?_, ?_, by simp⟩
    · rw [l]
      show [] ++ (([] ++ denC E ⟨_, 1⟩) ++ denC E ⟨_, 1⟩) = _
      unfold denC
      rw [rep_one, rep_one, List.nil_append, List.nil_append]
    · show 0 + 1 * cst E _ + 1 * cst E _ < _
      unfold cst
      rw [l, List.length_append]; dsimp only; omega
    · intro c' hc
      simp only [List.mem_cons, List.not_mem_nil, or_false] at hc
      rcases hc with rfl | rfl
      · exact ⟨⟨f, by dsimp only; omega, by dsimp only; omega, by dsimp only; omega⟩, g⟩
      · exact ⟨⟨c, by dsimp only; omega, by dsimp only; omega, by dsimp only; omega⟩, d⟩
  · have p1 := pos _ c (by omega)
    unfold emit kids
    rw [if_neg (by omega), if_neg (by omega), if_neg (by omega)]
    refine ⟨?_, ?_, ?_, by simp⟩
    · rw [l]; rfl
    · rw [muc_one]
      unfold cst
      rw [l, rep_length]
      dsimp only
      have : (entAt E s.id).ru.times * (2 * (txt E (entAt E s.id).ru.left).length - 1) + (entAt E s.id).ru.times = 2 * ((entAt E s.id).ru.times * (txt E (entAt E s.id).ru.left).length) := by
        obtain ⟨q, hq⟩ : ∃ q, (txt E (entAt E s.id).ru.left).length = q + 1 := ⟨_, (Nat.succ_pred_eq_of_pos p1).symm⟩
        rw [hq, show 2 * (q + 1) - 1 = 2 * q + 1 by omega, Nat.mul_add, Nat.mul_add, Nat.mul_one, Nat.mul_add, ← Nat.mul_assoc, ← Nat.mul_assoc, Nat.mul_comm 2]; omega
      omega
    · intro c' hc
      simp only [List.mem_cons, List.not_mem_nil, or_false] at hc
      subst hc
      exact ⟨⟨c, by dsimp only; omega, by dsimp only; omega, g⟩, d⟩
/-- The numbers fall toward the stack's end. -/
def bndc (C : Nat) (L : List Cp) : Prop := ∀ (k : Nat) (s : Cp), L[k]? = some s → k + 1 + 3 * s.id ≤ C
theorem bndc.len {C : Nat} {L : List Cp} (h : bndc C L) : L.length ≤ C := by
  rcases List.eq_nil_or_concat L with rfl | ⟨L', s, rfl⟩
  · simp
  · have := h L'.length s (by rw [List.concat_eq_append, List.getElem?_append_right (Nat.le_refl _)]; simp)
    rw [List.concat_eq_append, List.length_append, List.length_singleton]; omega
theorem bndc.drop {C : Nat} {L : List Cp} {s : Cp} (h : bndc C (L ++ [s])) : bndc C (dropC L s) := by
  have h0 : bndc C L := fun k x hx => h k x (by rw [List.getElem?_append_left (List.getElem?_eq_some_iff.1 hx).1]; exact hx)
  unfold dropC
  split
  · exact h0
  · intro k x hx
    by_cases hk : k < L.length
    · rw [List.getElem?_append_left hk] at hx
      exact h0 k x hx
    · rw [List.getElem?_append_right (by omega)] at hx
      have hk2 := (List.getElem?_eq_some_iff.1 hx).1
      simp only [List.length_singleton] at hk2
      have e : k = L.length := by omega
      subst e
      simp at hx
      subst hx
      exact h L.length s (by rw [List.getElem?_append_right (Nat.le_refl _)]; simp)
theorem dropC_len (L : List Cp) (s : Cp) : (dropC L s).length ≤ L.length + 1 := by
  unfold dropC; split <;> simp
theorem bndc.push {C : Nat} {L M : List Cp} {s : Cp} (h : bndc C (L ++ [s])) (hM : ∀ x ∈ M, x.id < s.id) (hl : M.length ≤ 2) : bndc C (dropC L s ++ M) := by
  intro k x hx
  by_cases hk : k < (dropC L s).length
  · rw [List.getElem?_append_left hk] at hx
    exact h.drop k x hx
  · rw [List.getElem?_append_right (by omega)] at hx
    have h1 := h L.length s (by rw [List.getElem?_append_right (Nat.le_refl _)]; simp)
    have h2 := hM x (List.mem_of_getElem? hx)
    have h3 := (List.getElem?_eq_some_iff.1 hx).1
    have h4 := dropC_len L s
    omega
/-- The last element's cell is written. -/
theorem SlA.put {α : Type} {B g n cap : Nat} {W : World} {e : TypeId} {size : Nat} {enc : α → List Value} (he : ∀ a, (enc a).length = size) {L : List α} {a b : α} (h : SlA B W e size enc (.slice (some ⟨g, 0, none⟩) n cap) (L ++ [a])) {j : Nat} (hj : j < size) {u : Value} (hb : enc b = (enc a).set j u) :
    SlA B (W.setCell ⟨g, L.length * size + j, none⟩ u) e size enc (.slice (some ⟨g, 0, none⟩) n cap) (L ++ [b]) := by
  have hx : (L ++ [b]).flatMap enc = ((L ++ [a]).flatMap enc).set (L.length * size + j) u := by
    simp only [List.flatMap_append, List.flatMap_cons, List.flatMap_nil, List.append_nil]
    rw [List.set_append_right _ _ (by rw [flatMap_len he]; omega), flatMap_len he, Nat.add_sub_cancel_left, hb]
  have hn : (L ++ [b]).length = (L ++ [a]).length := by simp
  unfold SlA at h ⊢
  rw [hx, hn]
  refine ⟨by rw [List.length_set]; exact h.1, ?_⟩
  rcases h.2 with ⟨hv, _⟩ | ⟨g', cap', cur, hv, hg, hgb, h1, h2, h3, h4⟩
  · cases hv
  · cases hv
    refine .inr ⟨g, cap, cur.setIfInBounds (L.length * size + j) u, rfl, hg, heap_set0 _ hgb, h1, h2, by simpa using h3, ?_⟩
    rw [Array.toList_setIfInBounds, List.take_set, h4]
end M
end Go.Proofs.Ytjbllcakaljpgaa
