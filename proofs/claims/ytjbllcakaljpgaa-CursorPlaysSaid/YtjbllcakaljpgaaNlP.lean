/- Where a line of a text begins. No walk. -/
import Derived.Test.YtjbllcakaljpgaaPartsP
namespace Go.Proofs.Ytjbllcakaljpgaa
open Go.RowKit
namespace M
/-- The offset behind the line feed with a number, from 1 on. -/
def nlp : List Nat → Nat → Nat
  | _, 0 => 0
  | [], _ + 1 => 0
  | c :: t, L + 1 => 1 + nlp t (if c = 10 then L else L + 1)
theorem nlp_zero (t : List Nat) : nlp t 0 = 0 := by cases t <;> rfl
theorem nlp_left : ∀ (s t : List Nat) (L : Nat), L ≤ s.count 10 → nlp (s ++ t) L = nlp s L
  | s, t, 0, _ => by rw [nlp_zero, nlp_zero]
  | [], t, L + 1, h => by simp at h
  | c :: s, t, L + 1, h => by
    show 1 + nlp (s ++ t) _ = 1 + nlp s _
    by_cases hc : c = 10
    · subst hc
      rw [if_pos rfl]
      rw [List.count_cons_self] at h
      rw [nlp_left s t L (by omega)]
    · rw [if_neg hc]
      rw [List.count_cons_of_ne (by simpa using hc)] at h
      rw [nlp_left s t (L + 1) h]
theorem nlp_right : ∀ (s t : List Nat) (L : Nat), s.count 10 < L → nlp (s ++ t) L = s.length + nlp t (L - s.count 10)
  | [], t, L, _ => by simp
  | c :: s, t, 0, h => by simp at h
  | c :: s, t, L + 1, h => by
    show 1 + nlp (s ++ t) _ = _
    by_cases hc : c = 10
    · subst hc
      rw [if_pos rfl]
      rw [List.count_cons_self] at h ⊢
      rw [nlp_right s t L (by omega), List.length_cons, show L + 1 - (List.count 10 s + 1) = L - List.count 10 s by omega]
      omega
    · rw [if_neg hc]
      rw [List.count_cons_of_ne (by simpa using hc)] at h ⊢
      rw [nlp_right s t (L + 1) h, List.length_cons]
      omega
theorem count_rep (k : Nat) (t : List Nat) : (rep k t).count 10 = k * t.count 10 := by
  induction k with
  | zero => simp [rep]
  | succ k ih => rw [rep_succ, List.count_append, ih, Nat.succ_mul]; omega
theorem nlp_rep (t : List Nat) (hc : 0 < t.count 10) : ∀ (k L : Nat), 0 < L → L ≤ k * t.count 10 → nlp (rep k t) L = (L - 1) / t.count 10 * t.length + nlp t (L - (L - 1) / t.count 10 * t.count 10)
  | 0, L, h0, h => by omega
  | k + 1, L, h0, h => by
    rw [rep_succ]
    by_cases hL : L ≤ t.count 10
    · have e : (L - 1) / t.count 10 = 0 := Nat.div_eq_of_lt (by omega)
      rw [e, Nat.zero_mul, Nat.zero_mul, Nat.sub_zero, Nat.zero_add, nlp_left _ _ _ hL]
    · rw [nlp_right _ _ _ (by omega), nlp_rep t hc k (L - t.count 10) (by omega) (by rw [Nat.succ_mul] at h; omega)]
      have e : (L - 1) / t.count 10 = (L - t.count 10 - 1) / t.count 10 + 1 := by
        rw [show L - 1 = (L - t.count 10 - 1) + t.count 10 by omega, Nat.add_div_right _ hc]
      rw [e, Nat.succ_mul, Nat.succ_mul]
      have e2 : L - t.count 10 - (L - t.count 10 - 1) / t.count 10 * t.count 10 = L - ((L - t.count 10 - 1) / t.count 10 * t.count 10 + t.count 10) := by omega
      rw [e2]; omega
/-- What the loop does with a rule that is no letter. -/
def begF (r : Ru) (len lines L : Nat) : Nat × Nat × Nat :=
  if r.kind = 3 then (r.left, (L - 1) / lines * len, L - (L - 1) / lines * lines)
  else if L ≤ lines then (r.left, 0, L) else (r.right, len, L - lines)
theorem begF_step {E : List En} (h : Wf E) {i L : Nat} (h0 : 0 < i) (hi : i ≤ E.length) (hk : (entAt E i).ru.kind ≠ 1) (hL0 : 0 < L) (hL : L ≤ (txt E i).count 10) :
    let p := begF (entAt E i).ru (txt E (entAt E i).ru.left).length ((txt E (entAt E i).ru.left).count 10) L
    0 < p.1 ∧ p.1 < i ∧ 0 < p.2.2 ∧ p.2.2 ≤ (txt E p.1).count 10 ∧ nlp (txt E i) L = p.2.1 + nlp (txt E p.1) p.2.2 ∧ ((entAt E i).ru.kind = 3 → 0 < (txt E (entAt E i).ru.left).count 10) := by
  intro p
  rcases (h.rule i h0 hi).cases with ⟨a, -⟩ | ⟨a, -, c, d, f, g, -, l⟩ | ⟨a, -, c, d, -, g, -, l⟩
  · exact absurd a hk
  · have hp : p = if L ≤ (txt E (entAt E i).ru.left).count 10 then ((entAt E i).ru.left, 0, L) else ((entAt E i).ru.right, (txt E (entAt E i).ru.left).length, L - (txt E (entAt E i).ru.left).count 10) := by
      show begF _ _ _ _ = _
      unfold begF
      rw [if_neg (by omega)]
    rw [l, List.count_append] at hL
    rw [hp, l]
    split
    · rename_i hle
      exact ⟨c, d, hL0, hle, by rw [nlp_left _ _ _ hle, Nat.zero_add], fun e => by omega⟩
    · rename_i hle
      exact ⟨f, g, by dsimp only; omega, by dsimp only; omega, by rw [nlp_right _ _ _ (by omega)], fun e => by omega⟩
  · have hp : p = ((entAt E i).ru.left, (L - 1) / (txt E (entAt E i).ru.left).count 10 * (txt E (entAt E i).ru.left).length, L - (L - 1) / (txt E (entAt E i).ru.left).count 10 * (txt E (entAt E i).ru.left).count 10) := by
      show begF _ _ _ _ = _
      unfold begF
      rw [if_pos a]
    rw [l, count_rep] at hL
    have hc : 0 < (txt E (entAt E i).ru.left).count 10 := by
      rcases Nat.eq_zero_or_pos ((txt E (entAt E i).ru.left).count 10) with e | e
      · rw [e] at hL; omega
      · exact e
    rw [hp, l]
    refine ⟨c, d, ?_, ?_, nlp_rep _ hc _ _ hL0 hL, fun _ => hc⟩
    · dsimp only
      have := Nat.div_mul_le_self (L - 1) ((txt E (entAt E i).ru.left).count 10)
      omega
    · dsimp only
      have h1 := Nat.div_add_mod (L - 1) ((txt E (entAt E i).ru.left).count 10)
      have h2 := Nat.mod_lt (L - 1) hc
      rw [Nat.mul_comm] at h1
      omega
theorem nlp_le : ∀ (t : List Nat) (L : Nat), nlp t L ≤ t.length
  | _, 0 => by rw [nlp_zero]; exact Nat.zero_le _
  | [], L + 1 => Nat.le_refl _
  | c :: t, L + 1 => by
    show 1 + nlp t _ ≤ t.length + 1
    have := nlp_le t (if c = 10 then L else L + 1)
    omega
/-- Behind it lie so many line feeds, the last of them directly before it. -/
theorem nlp_spec : ∀ (t : List Nat) (L : Nat), 0 < L → L ≤ t.count 10 → (t.take (nlp t L)).count 10 = L ∧ 0 < nlp t L ∧ t[nlp t L - 1]? = some 10
  | [], L, h0, h => by simp at h; omega
  | c :: t, L + 1, h0, h => by
    by_cases hc : c = 10
    · subst hc
      rw [List.count_cons_self] at h
      have e : nlp (10 :: t) (L + 1) = 1 + nlp t L := by show 1 + nlp t (if 10 = 10 then L else L + 1) = _; rw [if_pos rfl]
      rw [e, show 1 + nlp t L = nlp t L + 1 by omega, List.take_succ_cons, List.count_cons_self]
      rcases Nat.eq_zero_or_pos L with h1 | h1
      · subst h1
        rw [nlp_zero]
        exact ⟨by simp, by omega, rfl⟩
      · obtain ⟨a, b, d⟩ := nlp_spec t L h1 (by omega)
        refine ⟨by rw [a], by omega, ?_⟩
        rw [Nat.add_sub_cancel, show nlp t L = (nlp t L - 1) + 1 by omega, List.getElem?_cons_succ]; exact d
    · rw [List.count_cons_of_ne (by simpa using hc)] at h
      have e : nlp (c :: t) (L + 1) = 1 + nlp t (L + 1) := by show 1 + nlp t (if c = 10 then L else L + 1) = _; rw [if_neg hc]
      obtain ⟨a, b, d⟩ := nlp_spec t (L + 1) (by omega) h
      rw [e, show 1 + nlp t (L + 1) = nlp t (L + 1) + 1 by omega, List.take_succ_cons, List.count_cons_of_ne (by simpa using hc)]
      refine ⟨a, by omega, ?_⟩
      rw [Nat.add_sub_cancel, show nlp t (L + 1) = (nlp t (L + 1) - 1) + 1 by omega, List.getElem?_cons_succ]; exact d
end M
end Go.Proofs.Ytjbllcakaljpgaa
