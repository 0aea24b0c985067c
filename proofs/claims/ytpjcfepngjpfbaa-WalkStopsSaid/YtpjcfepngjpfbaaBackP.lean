/- Stacks of copies of texts, read from below: what precedes an offset. No walk. -/
import Derived.Test.YtpjcfepngjpfbaaCopP
namespace Go.Proofs.Ytpjcfepngjpfbaa
open Go.RowKit
namespace M
theorem rep_snocB (n : Nat) (t : List Nat) : rep (n + 1) t = rep n t ++ t := by
  induction n with
  | zero => rw [rep_one]; rfl
  | succ n ih => rw [rep_succ, ih, ← List.append_assoc, ← rep_succ, ih]
/-- What a stack derives: the first one first. -/
def up (E : List En) : List Cp → List Nat
  | [] => []
  | c :: L => rep c.times (txt E c.id) ++ up E L
theorem up_append (E : List En) (L K : List Cp) : up E (L ++ K) = up E L ++ up E K := by
  induction L with
  | nil => rfl
  | cons a L ih => show rep a.times (txt E a.id) ++ up E (L ++ K) = (rep a.times (txt E a.id) ++ up E L) ++ up E K; rw [ih, List.append_assoc]
theorem up_snoc (E : List En) (L : List Cp) (c : Cp) : up E (L ++ [c]) = up E L ++ rep c.times (txt E c.id) := by
  rw [up_append]; show up E L ++ (rep c.times (txt E c.id) ++ []) = _; rw [List.append_nil]
theorem up_pop (E : List En) (L : List Cp) (c : Cp) (h : 0 < c.times) : up E (L ++ [c]) = up E (popC L c) ++ txt E c.id := by
  unfold popC
  rw [up_snoc]
  by_cases h1 : c.times = 1
  · rw [if_pos h1, h1, rep_one]
  · rw [if_neg h1, up_snoc]
    obtain ⟨k, hk⟩ : ∃ k, c.times = k + 1 := ⟨c.times - 1, by omega⟩
    rw [hk, rep_snocB, Nat.add_sub_cancel, List.append_assoc]
/-- What precedes an offset of a power. -/
theorem rep_take_at {t : List Nat} (ht : 0 < t.length) {n f : Nat} (h0 : 0 < f) (hf : f ≤ n * t.length) : (f - 1) / t.length < n ∧ 0 < f - (f - 1) / t.length * t.length ∧ f - (f - 1) / t.length * t.length ≤ t.length ∧ (f - 1) / t.length * t.length < f ∧ (rep n t).take f = rep ((f - 1) / t.length) t ++ t.take (f - (f - 1) / t.length * t.length) := by
  obtain ⟨q, hq⟩ : ∃ q, (f - 1) / t.length = q := ⟨_, rfl⟩
  have hm := Nat.div_add_mod (f - 1) t.length
  have hml := Nat.mod_lt (f - 1) ht
  rw [hq, Nat.mul_comm] at hm
  rw [hq]
  have hqn : q < n := by
    rw [← hq]
    exact Nat.div_lt_of_lt_mul (by rw [Nat.mul_comm]; omega)
  refine ⟨hqn, by omega, by omega, by omega, ?_⟩
  obtain ⟨k, rfl⟩ : ∃ k, n = q + (k + 1) := ⟨n - q - 1, by omega⟩
  have e : rep (q + (k + 1)) t = rep q t ++ (t ++ rep k t) := by
    rw [rep_add, rep_succ]
  rw [e, List.take_append, rep_length, List.take_of_length_le (by rw [rep_length]; omega), List.take_append_of_le_length (by omega)]
end M
end Go.Proofs.Ytpjcfepngjpfbaa
