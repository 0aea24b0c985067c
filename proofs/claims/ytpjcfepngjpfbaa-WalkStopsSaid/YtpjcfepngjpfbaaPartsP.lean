/- The parts of a range of a text. No walk. -/
import Derived.Test.YtpjcfepngjpfbaaRuleP
namespace Go.Proofs.Ytpjcfepngjpfbaa
open Go.RowKit
namespace M
/-- A range of the text of a number, so many times. -/
structure Sp where
  id : Nat
  frm : Nat
  n : Nat
  times : Nat
def denS (E : List En) (s : Sp) : List Nat := rep s.times (((txt E s.id).drop s.frm).take s.n)
/-- What a stack of ranges derives: the last one first. -/
def den (E : List En) : List Sp → List Nat
  | [] => []
  | s :: L => den E L ++ denS E s
theorem den_snoc (E : List En) (L : List Sp) (s : Sp) : den E (L ++ [s]) = denS E s ++ den E L := by
  induction L with
  | nil => show den E [] ++ denS E s = denS E s ++ []; rw [List.append_nil]; rfl
  | cons a L ih => show den E (L ++ [s]) ++ denS E a = denS E s ++ (den E L ++ denS E a); rw [ih, List.append_assoc]
structure OkS (E : List En) (s : Sp) : Prop where
  pos : 0 < s.id
  le : s.id ≤ E.length
  rng : s.frm + s.n ≤ (txt E s.id).length
  one : s.n < (txt E s.id).length → s.times ≤ 1
def mu : List Sp → Nat
  | [] => 0
  | s :: L => 4 ^ s.id + mu L
theorem mu_append (L M : List Sp) : mu (L ++ M) = mu L + mu M := by
  induction L with
  | nil => simp [mu]
  | cons a L ih => show 4 ^ a.id + mu (L ++ M) = 4 ^ a.id + mu L + mu M; rw [ih]; omega
theorem mu_small {L : List Sp} {i : Nat} (h : ∀ s ∈ L, s.id < i) (hl : L.length ≤ 3) (h0 : 0 < i) : mu L < 4 ^ i := by
  have hp : ∀ s ∈ L, 4 ^ s.id ≤ 4 ^ (i - 1) := fun s hs => Nat.pow_le_pow_right (by omega) (by have := h s hs; omega)
  have hm : mu L ≤ L.length * 4 ^ (i - 1) := by
    clear h hl
    induction L with
    | nil => simp [mu]
    | cons a L ih =>
      have h1 := hp a (List.mem_cons_self ..)
      have h2 := ih (fun s hs => hp s (List.mem_cons_of_mem _ hs))
      show 4 ^ a.id + mu L ≤ (L.length + 1) * 4 ^ (i - 1)
      rw [Nat.succ_mul]; omega
  have e : 4 ^ i = 4 * 4 ^ (i - 1) := by
    rw [← Nat.pow_succ']; congr 1; omega
  have hpos : 0 < 4 ^ (i - 1) := Nat.pow_pos (by omega)
  have : L.length * 4 ^ (i - 1) ≤ 3 * 4 ^ (i - 1) := Nat.mul_le_mul_right _ hl
  omega
theorem take_drop_cat (s t : List Nat) (f n : Nat) : ((s ++ t).drop f).take n = (s.drop (min f s.length)).take (min (s.length - f) n) ++ (t.drop (f - s.length)).take (n - min (s.length - f) n) := by
  apply List.ext_getElem?
  intro j
  rw [List.getElem?_take, List.getElem?_drop, List.getElem?_append, List.getElem?_append, List.length_take, List.length_drop, List.getElem?_take, List.getElem?_take, List.getElem?_drop, List.getElem?_drop]
  by_cases h : f ≤ s.length
  · rw [Nat.min_eq_left h, Nat.sub_eq_zero_of_le h]
    by_cases hn : j < n
    · rw [if_pos hn]
      by_cases hj : f + j < s.length
      · rw [if_pos hj, if_pos (by omega), if_pos (by omega)]
      · rw [if_neg hj, if_neg (by omega), if_pos (by omega)]
        congr 1; omega
    · rw [if_neg hn]
      by_cases hj : j < min (min (s.length - f) n) (s.length - f)
      · omega
      · rw [if_neg hj, if_neg (by omega)]
  · rw [Nat.min_eq_right (show s.length ≤ f by omega), Nat.sub_eq_zero_of_le (show s.length ≤ f by omega), Nat.sub_self, Nat.zero_min, Nat.sub_zero, Nat.zero_min, if_neg (by omega : ¬ f + j < s.length), if_neg (by omega : ¬ j < 0), Nat.sub_zero]
    by_cases hn : j < n
    · rw [if_pos hn, if_pos hn]; congr 1; omega
    · rw [if_neg hn, if_neg hn]
theorem rep_drop (t : List Nat) (q m f : Nat) (hf : f ≤ t.length) : (rep (q + 1 + m) t).drop (q * t.length + f) = t.drop f ++ rep m t := by
  have e1 : rep (q + 1 + m) t = rep q t ++ (t ++ rep m t) := by rw [show q + 1 + m = q + (1 + m) by omega, rep_add, rep_add, rep_one]
  have e2 : (rep q t ++ (t ++ rep m t)).drop (q * t.length) = t ++ rep m t := by
    have h := rep_length q t
    rw [← h]; exact List.drop_left
  rw [e1, ← List.drop_drop, e2, List.drop_append_of_le_length hf]
theorem rep_take (t : List Nat) (a b m : Nat) (h0 : 0 < t.length) (hb : b ≤ t.length) (h : a * t.length + b ≤ m * t.length) : (rep m t).take (a * t.length + b) = rep a t ++ t.take b := by
  have ham : a ≤ m := by
    rcases Nat.lt_or_ge m a with h1 | h1
    · have := Nat.mul_le_mul_right t.length (show m + 1 ≤ a by omega)
      rw [Nat.succ_mul] at this
      omega
    · exact h1
  obtain ⟨k, rfl⟩ : ∃ k, m = a + k := ⟨m - a, by omega⟩
  rw [rep_add, List.take_append, rep_length, List.take_of_length_le (by rw [rep_length]; omega), Nat.add_sub_cancel_left]
  congr 1
  cases k with
  | zero =>
    have : b = 0 := by rw [Nat.add_zero] at h; omega
    subst this
    simp
  | succ k => rw [rep_succ, List.take_append_of_le_length hb]
/-- A range of a repeated text that lies in one copy. -/
theorem rep_in (t : List Nat) (k f n : Nat) (h0 : 0 < t.length) (h : f + n ≤ k * t.length) (hn : 0 < n) (h1 : f % t.length + n ≤ t.length) : ((rep k t).drop f).take n = (t.drop (f % t.length)).take n := by
  have hq : f / t.length < k := by rw [Nat.div_lt_iff_lt_mul h0]; omega
  obtain ⟨m, rfl⟩ : ∃ m, k = f / t.length + 1 + m := ⟨k - (f / t.length + 1), by omega⟩
  have e : f / t.length * t.length + f % t.length = f := by rw [Nat.mul_comm]; exact Nat.div_add_mod f t.length
  have hd := rep_drop t (f / t.length) m (f % t.length) (Nat.le_of_lt (Nat.mod_lt _ h0))
  rw [e] at hd
  rw [hd, List.take_append_of_le_length (by rw [List.length_drop]; omega)]
/-- One that does not: the end of a copy, whole copies, the beginning of a copy. -/
theorem rep_out (t : List Nat) (k f n : Nat) (h0 : 0 < t.length) (h : f + n ≤ k * t.length) (h1 : t.length < f % t.length + n) :
    ((rep k t).drop f).take n = (t.drop (f % t.length)).take ((t.length - f % t.length) % t.length) ++ (rep ((n - (t.length - f % t.length) % t.length) / t.length) t ++ t.take ((n - (t.length - f % t.length) % t.length) % t.length)) ∧ (t.length - f % t.length) % t.length ≤ n := by
  have hfm := Nat.mod_lt f h0
  have hq : f / t.length < k := by rw [Nat.div_lt_iff_lt_mul h0]; omega
  obtain ⟨m, rfl⟩ : ∃ m, k = f / t.length + 1 + m := ⟨k - (f / t.length + 1), by omega⟩
  have e : f / t.length * t.length + f % t.length = f := by rw [Nat.mul_comm]; exact Nat.div_add_mod f t.length
  have hd := rep_drop t (f / t.length) m (f % t.length) (Nat.le_of_lt hfm)
  rw [e] at hd
  rw [hd]
  have hb : n ≤ (t.length - f % t.length) + m * t.length := by
    rw [Nat.add_mul, Nat.add_mul, Nat.one_mul] at h
    omega
  by_cases hz : f % t.length = 0
  · rw [hz, Nat.sub_zero, Nat.mod_self, Nat.sub_zero, List.drop_zero, List.take_zero, List.nil_append]
    refine ⟨?_, Nat.zero_le _⟩
    have hr : t ++ rep m t = rep (m + 1) t := (rep_succ m t).symm
    rw [hr]
    have ht := rep_take t (n / t.length) (n % t.length) (m + 1) h0 (Nat.le_of_lt (Nat.mod_lt _ h0)) (by
      have e2 : n / t.length * t.length + n % t.length = n := by rw [Nat.mul_comm]; exact Nat.div_add_mod n t.length
      rw [e2, Nat.succ_mul]; omega)
    have e2 : n / t.length * t.length + n % t.length = n := by rw [Nat.mul_comm]; exact Nat.div_add_mod n t.length
    rwa [e2] at ht
  · have hh : (t.length - f % t.length) % t.length = t.length - f % t.length := Nat.mod_eq_of_lt (by omega)
    rw [hh]
    obtain ⟨r, hr⟩ : ∃ r, n - (t.length - f % t.length) = r := ⟨_, rfl⟩
    rw [hr]
    refine ⟨?_, by omega⟩
    rw [List.take_append, List.length_drop, hr, List.take_of_length_le (by rw [List.length_drop]; omega), List.take_of_length_le (show (t.drop (f % t.length)).length ≤ t.length - f % t.length by rw [List.length_drop]; exact Nat.le_refl _)]
    congr 1
    have e2 : r / t.length * t.length + r % t.length = r := by rw [Nat.mul_comm]; exact Nat.div_add_mod r t.length
    have ht := rep_take t (r / t.length) (r % t.length) m h0 (Nat.le_of_lt (Nat.mod_lt _ h0)) (by rw [e2]; omega)
    rwa [e2] at ht
/-- What halve lays on the stack. -/
def halveS (r : Ru) (l : Nat) (s : Sp) : List Sp := [⟨r.right, s.frm - l, s.n - min (l - s.frm) s.n, 1⟩, ⟨r.left, min s.frm l, min (l - s.frm) s.n, 1⟩]
/-- What divide lays on the stack. -/
def divideS (r : Ru) (l : Nat) (s : Sp) : List Sp :=
  if s.frm % l + s.n ≤ l then [⟨r.left, s.frm % l, s.n, 1⟩]
  else [⟨r.left, 0, (s.n - (l - s.frm % l) % l) % l, 1⟩, ⟨r.left, 0, l, (s.n - (l - s.frm % l) % l) / l⟩, ⟨r.left, s.frm % l, (l - s.frm % l) % l, 1⟩]
def splitS (r : Ru) (l : Nat) (s : Sp) : List Sp := if r.kind = 2 then halveS r l s else divideS r l s
theorem splitS_ok {E : List En} (h : Wf E) {s : Sp} (hs : OkS E s) (hn : 0 < s.n) (ht : 0 < s.times) (hlt : s.n < (txt E s.id).length) :
    (∀ x ∈ splitS (entAt E s.id).ru (txt E (entAt E s.id).ru.left).length s, OkS E x ∧ x.id < s.id) ∧ (splitS (entAt E s.id).ru (txt E (entAt E s.id).ru.left).length s).length ≤ 3 ∧ den E (splitS (entAt E s.id).ru (txt E (entAt E s.id).ru.left).length s) = denS E s := by
  have h1 : s.times = 1 := by have := hs.one hlt; omega
  have hd : denS E s = ((txt E s.id).drop s.frm).take s.n := by unfold denS; rw [h1, rep_one]
  rw [hd]
  have hR := hs.rng
  rcases (h.rule s.id hs.pos hs.le).cases with ⟨-, -, -, -, -, g⟩ | ⟨a, -, c, d, f, g, -, l⟩ | ⟨a, -, c, d, -, g, -, l⟩
  · rw [g] at hlt; simp at hlt; omega
  · unfold splitS halveS
    rw [if_pos a]
    generalize (entAt E s.id).ru = r at *
    rw [l, List.length_append] at hR
    refine ⟨?_, by simp, ?_⟩
    · intro x hx
      simp only [List.mem_cons, List.not_mem_nil, or_false] at hx
      rcases hx with rfl | rfl
      · exact ⟨⟨f, by have := hs.le; dsimp only; omega, by dsimp only; omega, fun _ => Nat.le_refl _⟩, g⟩
      · exact ⟨⟨c, by have := hs.le; dsimp only; omega, by dsimp only; omega, fun _ => Nat.le_refl _⟩, d⟩
    · rw [l, take_drop_cat]
      simp [den, denS, rep_one]
  · have h0 : 0 < (txt E (entAt E s.id).ru.left).length := (h.get _ c (by have := hs.le; omega)).2.2.1
    unfold splitS divideS
    rw [if_neg (by omega)]
    generalize (entAt E s.id).ru = r at *
    rw [l, rep_length] at hR
    have hfm := Nat.mod_lt s.frm h0
    split
    · rename_i hin
      refine ⟨?_, by simp, ?_⟩
      · intro x hx
        simp only [List.mem_cons, List.not_mem_nil, or_false] at hx
        subst hx
        exact ⟨⟨c, by have := hs.le; dsimp only; omega, hin, fun _ => Nat.le_refl _⟩, d⟩
      · rw [l, rep_in _ _ _ _ h0 hR hn hin]
        simp [den, denS, rep_one]
    · rename_i hin
      obtain ⟨e1, e2⟩ := rep_out _ _ _ _ h0 hR (by omega)
      refine ⟨?_, by simp, ?_⟩
      · intro x hx
        simp only [List.mem_cons, List.not_mem_nil, or_false] at hx
        rcases hx with rfl | rfl | rfl
        · refine ⟨⟨c, by have := hs.le; dsimp only; omega, ?_, fun _ => Nat.le_refl _⟩, d⟩
          dsimp only
          have := Nat.mod_lt (s.n - ((txt E r.left).length - s.frm % (txt E r.left).length) % (txt E r.left).length) h0
          omega
        · exact ⟨⟨c, by have := hs.le; dsimp only; omega, by dsimp only; omega, fun h => absurd h (Nat.lt_irrefl _)⟩, d⟩
        · refine ⟨⟨c, by have := hs.le; dsimp only; omega, ?_, fun _ => Nat.le_refl _⟩, d⟩
          dsimp only
          by_cases hz : s.frm % (txt E r.left).length = 0
          · rw [hz, Nat.sub_zero, Nat.mod_self]; omega
          · rw [show ((txt E r.left).length - s.frm % (txt E r.left).length) % (txt E r.left).length = (txt E r.left).length - s.frm % (txt E r.left).length from Nat.mod_eq_of_lt (by omega)]; omega
      · rw [l, e1]
        simp [den, denS, rep_one, List.take_of_length_le]
end M
end Go.Proofs.Ytpjcfepngjpfbaa
