/- The reference's One makes what the program makes. No walk. -/
import Derived.Test.YtjbllcakaljpgaaBuildP
namespace Go.Proofs.Ytjbllcakaljpgaa
open Go.RowKit
namespace M
def fidL (r : Ru) : Nat → List Ru → Nat
  | _, [] => 0
  | n, a :: R => if a = r then n else fidL r (n + 1) R
def addR (R : List Ru) (L : List Nat) (r : Ru) (n : Nat) : (List Ru × List Nat) × Nat := if fidL r 1 R = 0 then ((R ++ [r], L ++ [n]), R.length + 1) else ((R, L), fidL r 1 R)
/-- The reference's One. -/
def oneR (R : List Ru) (L : List Nat) (S : List Nat) (m : Mk) : (List Ru × List Nat) × Nat :=
  if pk m.kind 4 = 0 then addR R L ⟨1, m.letter, 0, 0, 0⟩ 1
  else if pk m.kind 4 = 3 then
    (if resAt S m.left = 0 ∨ m.times ≤ 0 ∨ m.times > ((1152921504606846976 / lenAt L (resAt S m.left) : Nat) : Int) then ((R, L), 0) else if m.times = 1 then ((R, L), resAt S m.left) else addR R L ⟨3, 0, resAt S m.left, 0, m.times.toNat⟩ (lenAt L (resAt S m.left) * m.times.toNat))
  else if resAt S m.left = 0 then ((R, L), resAt S m.right) else if resAt S m.right = 0 then ((R, L), resAt S m.left)
  else if lenAt L (resAt S m.left) > 1152921504606846976 - lenAt L (resAt S m.right) then ((R, L), 0) else addR R L ⟨2, 0, resAt S m.left, resAt S m.right, 0⟩ (lenAt L (resAt S m.left) + lenAt L (resAt S m.right))
theorem fidL_map (r : Ru) : ∀ (n : Nat) (E : List En), fidL r n (E.map En.ru) = fid r n E
  | _, [] => rfl
  | n, e :: E => by
    rw [List.map_cons, fidL, fid, fidL_map r (n + 1) E]
def lens (E : List En) : List Nat := E.map fun e => e.w.len
theorem lenAt_map (E : List En) {i : Nat} (hi : i ≤ E.length) : lenAt (lens E) i = (entAt E i).w.len := by
  unfold lenAt lens entAt
  by_cases h : i = 0
  · rw [if_pos h, if_pos h]; rfl
  · rw [if_neg h, if_neg h, List.getElem?_map, List.getElem?_eq_getElem (by omega)]; rfl
theorem addR_same (E : List En) (e : En) {n : Nat} (hn : n = e.w.len) : addR (E.map En.ru) (lens E) e.ru n = (((addF E e).1.map En.ru, lens (addF E e).1), (addF E e).2) := by
  unfold addR addF
  rw [fidL_map]
  split
  · simp [lens, hn]
  · rfl
theorem one_same {E : List En} (h : Wf E) {S : List Nat} (hS : ∀ x ∈ S, x ≤ E.length) (m : Mk) : oneR (E.map En.ru) (lens E) S m = (((oneF E S m).1.map En.ru, lens (oneF E S m).1), (oneF E S m).2) := by
  have hl := resAt_le hS m.left
  have hr := resAt_le hS m.right
  unfold oneR oneF
  by_cases k0 : pk m.kind 4 = 0
  · rw [if_pos k0, if_pos k0]
    exact addR_same E (letE m.letter) rfl
  · rw [if_neg k0, if_neg k0]
    by_cases k3 : pk m.kind 4 = 3
    · rw [if_pos k3, if_pos k3, lenAt_map E hl]
      generalize resAt S m.left = l at *
      unfold powF
      by_cases h0 : l = 0
      · rw [if_pos (.inl h0), if_pos (.inr h0)]
      · by_cases ht : m.times ≤ 0
        · rw [if_pos (.inr (.inl ht)), if_pos (.inl (by omega))]
        · obtain ⟨g1, g2, g3, g4⟩ := h.get l (by omega) hl
          have hlen : (entAt E l).w.len = (txt E l).length := by rw [g1]; rfl
          have hpos : 0 < (entAt E l).w.len := by rw [hlen]; exact g3
          obtain ⟨k, hk⟩ : ∃ k : Nat, m.times = (k : Int) := ⟨m.times.toNat, by omega⟩
          have e1 : (max m.times 0).toNat = k := by omega
          have e2 : m.times.toNat = k := by omega
          rw [e1, e2, hk]
          have hdiv : ((k : Int) > ((1152921504606846976 / (entAt E l).w.len : Nat) : Int)) ↔ ¬ (entAt E l).w.len * k ≤ 1152921504606846976 := by
            rw [Nat.mul_comm, ← Nat.le_div_iff_mul_le hpos]; omega
          rw [if_neg (show ¬ (k = 0 ∨ l = 0) by omega)]
          by_cases hs : (entAt E l).w.len * k ≤ 1152921504606846976
          · rw [if_neg (show ¬ (l = 0 ∨ (k : Int) ≤ 0 ∨ (k : Int) > ((1152921504606846976 / (entAt E l).w.len : Nat) : Int)) by rw [hdiv]; omega)]
            by_cases h1 : k = 1
            · rw [if_pos (by omega), if_pos h1]
            · rw [if_neg (by omega), if_neg h1, if_pos hs]
              refine addR_same E (powE E l k) ?_
              show _ = (rep k (txt E l)).length
              rw [rep_length, hlen, Nat.mul_comm]
          · rw [if_pos (.inr (.inr (hdiv.2 hs))), if_neg (show ¬ k = 1 from fun e => hs (by rw [e, Nat.mul_one, hlen]; exact g2)), if_neg hs]
    · rw [if_neg k3, if_neg k3, lenAt_map E hl, lenAt_map E hr]
      generalize resAt S m.left = l at *
      generalize resAt S m.right = r at *
      unfold pairF
      by_cases h0 : l = 0
      · rw [if_pos h0, if_pos h0]
      · rw [if_neg h0, if_neg h0]
        by_cases h1 : r = 0
        · rw [if_pos h1, if_pos h1]
        · rw [if_neg h1, if_neg h1]
          obtain ⟨g1, g2, g3, g4⟩ := h.get r (by omega) hr
          have hlen : (entAt E r).w.len = (txt E r).length := by rw [g1]; rfl
          by_cases hs : (entAt E l).w.len + (entAt E r).w.len ≤ 1152921504606846976
          · rw [if_neg (by omega), if_pos hs]
            exact addR_same E (pairE E l r) rfl
          · rw [if_pos (by omega), if_neg hs]
end M
end Go.Proofs.Ytjbllcakaljpgaa
