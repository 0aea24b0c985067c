/- What Letter, Pair and Power make of a store whose rules fit. No walk. -/
import Derived.Test.YtpjcfepngjpfbaaStoreOps
namespace Go.Proofs.Ytpjcfepngjpfbaa
open Go.RowKit
namespace M
theorem pairE_ok {E : List En} (h : Wf E) {l r : Nat} (hl0 : 0 < l) (hr0 : 0 < r) (hl : l ≤ E.length) (hr : r ≤ E.length) (hs : (entAt E l).w.len + (entAt E r).w.len ≤ 1152921504606846976) : OkEn E (pairE E l r) := by
  obtain ⟨a1, a2, a3, a4⟩ := h.get l hl0 hl
  obtain ⟨b1, b2, b3, b4⟩ := h.get r hr0 hr
  have e1 : (entAt E l).w.len = (txt E l).length := by rw [a1]; rfl
  have e2 : (entAt E r).w.len = (txt E r).length := by rw [b1]; rfl
  have ht : txOf (txts E) (pairE E l r).ru = txt E l ++ txt E r := rfl
  refine ⟨.inr (.inl ⟨rfl, rfl, hl0, hl, hr0, hr, rfl⟩), ?_, ?_, ?_, ?_⟩
  · rw [ht, wt_append, ← a1, ← b1]; rfl
  · rw [ht, List.length_append]; omega
  · rw [ht, List.length_append]; omega
  · show 1 + max (entAt E l).depth (entAt E r).depth ≤ E.length
    omega
theorem powE_ok {E : List En} (h : Wf E) {l k : Nat} (hl0 : 0 < l) (hl : l ≤ E.length) (hk : 2 ≤ k) (hs : (entAt E l).w.len * k ≤ 1152921504606846976) : OkEn E (powE E l k) := by
  obtain ⟨a1, a2, a3, a4⟩ := h.get l hl0 hl
  have e1 : (entAt E l).w.len = (txt E l).length := by rw [a1]; rfl
  have ht : txOf (txts E) (powE E l k).ru = rep k (txt E l) := rfl
  rw [e1] at hs
  have hk2 : k ≤ 1152921504606846976 := Nat.le_trans (Nat.le_mul_of_pos_left _ a3) hs
  refine ⟨.inr (.inr ⟨rfl, rfl, hl0, hl, rfl, hk, hk2⟩), by rw [ht]; rfl, ?_, ?_, ?_⟩
  · rw [ht, rep_length, Nat.mul_comm]; exact hs
  · rw [ht, rep_length]; exact Nat.mul_pos (by omega) a3
  · show 1 + (entAt E l).depth ≤ E.length
    omega
theorem pairF_wf {E : List En} (h : Wf E) {l r : Nat} (hl : l ≤ E.length) (hr : r ≤ E.length) : Wf (pairF E l r).1 ∧ (pairF E l r).1.length ≤ E.length + 1 ∧ E.length ≤ (pairF E l r).1.length ∧ (pairF E l r).2.1 ≤ (pairF E l r).1.length := by
  unfold pairF
  by_cases hl0 : l = 0
  · rw [if_pos hl0]; exact ⟨h, by simp, by simp, hr⟩
  · rw [if_neg hl0]
    by_cases hr0 : r = 0
    · rw [if_pos hr0]; exact ⟨h, by simp, by simp, hl⟩
    · rw [if_neg hr0]
      split
      · rename_i hs
        have := addF_wf h (pairE_ok h (by omega) (by omega) hl hr hs)
        exact ⟨this.1, this.2.1, by unfold addF; split <;> simp, this.2.2.2⟩
      · exact ⟨h, by simp, by simp, by simp⟩
theorem powF_wf {E : List En} (h : Wf E) {l k : Nat} (hl : l ≤ E.length) : Wf (powF E l k).1 ∧ (powF E l k).1.length ≤ E.length + 1 ∧ E.length ≤ (powF E l k).1.length ∧ (powF E l k).2.1 ≤ (powF E l k).1.length := by
  unfold powF
  by_cases h0 : k = 0 ∨ l = 0
  · rw [if_pos h0]; exact ⟨h, by simp, by simp, by simp⟩
  · rw [if_neg h0]
    by_cases h1 : k = 1
    · rw [if_pos h1]; exact ⟨h, by simp, by simp, hl⟩
    · rw [if_neg h1]
      split
      · rename_i hs
        have := addF_wf h (powE_ok h (by omega) hl (by omega) hs)
        exact ⟨this.1, this.2.1, by unfold addF; split <;> simp, this.2.2.2⟩
      · exact ⟨h, by simp, by simp, by simp⟩
end M
end Go.Proofs.Ytpjcfepngjpfbaa
