/- What a rule of a store that fits says of its text. No walk. -/
import Derived.Test.YtpjcfepngjpfbaaStoreWf
namespace Go.Proofs.Ytpjcfepngjpfbaa
open Go.RowKit
namespace M
/-- Rule i of a store. -/
structure RuOf (E : List En) (i : Nat) : Prop where
  cases : ((entAt E i).ru.kind = 1 ∧ (entAt E i).ru.letter < 256 ∧ (entAt E i).ru.left = 0 ∧ (entAt E i).ru.right = 0 ∧ (entAt E i).ru.times = 0 ∧ txt E i = [(entAt E i).ru.letter]) ∨
    ((entAt E i).ru.kind = 2 ∧ (entAt E i).ru.letter = 0 ∧ 0 < (entAt E i).ru.left ∧ (entAt E i).ru.left < i ∧ 0 < (entAt E i).ru.right ∧ (entAt E i).ru.right < i ∧ (entAt E i).ru.times = 0 ∧ txt E i = txt E (entAt E i).ru.left ++ txt E (entAt E i).ru.right) ∨
    ((entAt E i).ru.kind = 3 ∧ (entAt E i).ru.letter = 0 ∧ 0 < (entAt E i).ru.left ∧ (entAt E i).ru.left < i ∧ (entAt E i).ru.right = 0 ∧ 2 ≤ (entAt E i).ru.times ∧ (entAt E i).ru.times ≤ 1152921504606846976 ∧ txt E i = rep (entAt E i).ru.times (txt E (entAt E i).ru.left))
theorem entAt_snoc {E : List En} {e : En} {i : Nat} (hi : i ≤ E.length) : entAt (E ++ [e]) i = entAt E i := by
  unfold entAt
  by_cases h : i = 0
  · rw [if_pos h, if_pos h]
  · rw [if_neg h, if_neg h, List.getElem?_append_left (by omega)]
theorem entAt_last (E : List En) (e : En) : entAt (E ++ [e]) (E.length + 1) = e := by
  unfold entAt
  rw [if_neg (by omega), List.getElem?_append_right (by omega)]
  simp
theorem Wf.rule {E : List En} (h : Wf E) : ∀ i, 0 < i → i ≤ E.length → RuOf E i := by
  induction h with
  | nil => intro i h1 h2; simp at h2; omega
  | @snoc E e hE he ih =>
    intro i h1 h2
    rw [List.length_append, List.length_singleton] at h2
    by_cases hi : i ≤ E.length
    · have h := (ih i h1 hi).cases
      rw [← entAt_snoc (e := e) hi] at h
      refine ⟨?_⟩
      rcases h with ⟨a, b, c, d, f, g⟩ | ⟨a, b, c, d, f, g, k, l⟩ | ⟨a, b, c, d, f, g, k, l⟩
      · exact .inl ⟨a, b, c, d, f, by rw [txt_snoc hi]; exact g⟩
      · exact .inr (.inl ⟨a, b, c, d, f, g, k, by rw [txt_snoc hi, txt_snoc (by omega), txt_snoc (by omega)]; exact l⟩)
      · exact .inr (.inr ⟨a, b, c, d, f, g, k, by rw [txt_snoc hi, txt_snoc (by omega)]; exact l⟩)
    · obtain rfl : i = E.length + 1 := by omega
      refine ⟨?_⟩
      rw [entAt_last, txt_last]
      rcases he.kind with ⟨a, b, c, d, f⟩ | ⟨a, b, c, d, f, g, k⟩ | ⟨a, b, c, d, f, g, k⟩
      · exact .inl ⟨a, b, c, d, f, by unfold txOf; rw [if_pos a]⟩
      · refine .inr (.inl ⟨a, b, c, by omega, f, by omega, k, ?_⟩)
        rw [txt_snoc d, txt_snoc g]
        unfold txOf
        rw [if_neg (by omega), if_pos a]; rfl
      · refine .inr (.inr ⟨a, b, c, by omega, f, g, k, ?_⟩)
        rw [txt_snoc d]
        unfold txOf
        rw [if_neg (by omega), if_neg (by omega)]; rfl
theorem Wf.len {E : List En} (h : Wf E) {i : Nat} (hi : i ≤ E.length) : (entAt E i).w = wt (txt E i) ∧ (txt E i).length ≤ 1152921504606846976 := by
  by_cases h0 : i = 0
  · subst h0; exact ⟨rfl, by rw [txt_zero]; simp⟩
  · obtain ⟨a, b, -, -⟩ := h.get i (by omega) hi
    exact ⟨a, b⟩
theorem rep_get {t : List Nat} (ht : 0 < t.length) : ∀ (n k : Nat), k < n * t.length → (rep n t)[k]? = t[k % t.length]?
  | 0, k, h => by simp at h
  | n + 1, k, h => by
    rw [rep_succ]
    by_cases hk : k < t.length
    · rw [List.getElem?_append_left hk, Nat.mod_eq_of_lt hk]
    · rw [List.getElem?_append_right (by omega), rep_get ht n (k - t.length) (by rw [Nat.succ_mul] at h; omega), ← Nat.mod_eq_sub_mod (by omega)]
/-- Where the letter at an offset of a Pair or a Power lies. -/
def belF (r : Ru) (n a : Nat) : Nat × Nat := if r.kind = 3 then (r.left, a % n) else if a < n then (r.left, a) else (r.right, a - n)
theorem belF_step {E : List En} (h : Wf E) {i k : Nat} {b : Nat} (h0 : 0 < i) (hi : i ≤ E.length) (hk : (entAt E i).ru.kind ≠ 1) (hb : (txt E i)[k]? = some b) :
    0 < (belF (entAt E i).ru (txt E (entAt E i).ru.left).length k).1 ∧ (belF (entAt E i).ru (txt E (entAt E i).ru.left).length k).1 < i ∧ (txt E (belF (entAt E i).ru (txt E (entAt E i).ru.left).length k).1)[(belF (entAt E i).ru (txt E (entAt E i).ru.left).length k).2]? = some b := by
  unfold belF
  rcases (h.rule i h0 hi).cases with ⟨a, -⟩ | ⟨a, -, c, d, f, g, -, l⟩ | ⟨a, -, c, d, -, g, -, l⟩
  · exact absurd a hk
  · rw [if_neg (by omega)]
    rw [l] at hb
    by_cases hlt : k < (txt E (entAt E i).ru.left).length
    · rw [if_pos hlt]
      rw [List.getElem?_append_left hlt] at hb
      exact ⟨c, d, hb⟩
    · rw [if_neg hlt]
      rw [List.getElem?_append_right (by omega)] at hb
      exact ⟨f, g, hb⟩
  · rw [if_pos a]
    have hkl := (List.getElem?_eq_some_iff.1 hb).1
    rw [l] at hb hkl
    rw [rep_length] at hkl
    obtain ⟨-, -, hp, -⟩ := h.get _ c (by omega)
    rw [rep_get hp _ _ hkl] at hb
    exact ⟨c, d, hb⟩
end M
end Go.Proofs.Ytpjcfepngjpfbaa
