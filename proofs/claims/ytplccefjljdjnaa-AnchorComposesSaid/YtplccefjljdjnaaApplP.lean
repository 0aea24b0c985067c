/- What a patch makes of a text; where its kept letters stand. No walk. -/
import Derived.Test.YtplccefjljdjnaaConcat
import Derived.Test.YtplccefjljdjnaaAncP
set_option linter.unusedVariables false
set_option linter.unusedSimpArgs false
namespace Go.Proofs.Ytplccefjljdjnaa
open Go.RowKit
namespace M
/-- The patched text, from an offset on. -/
def patF (E : List En) (t : List Nat) : Nat → List Chg → List Nat
  | f, [] => t.drop f
  | f, c :: L => (t.drop f).take (c.pos.toNat - f) ++ (txt E c.id ++ patF E t (c.pos + c.n).toNat L)
/-- The offsets at which it is cut. -/
def ofsF : List Chg → List Nat
  | [] => []
  | c :: L => c.pos.toNat :: (c.pos + c.n).toNat :: ofsF L
/-- The pieces of which it is made. -/
def pcsT (E : List En) (t : List Nat) : Nat → List Chg → List (List Nat)
  | f, [] => [t.drop f]
  | f, c :: L => (t.drop f).take (c.pos.toNat - f) :: txt E c.id :: pcsT E t (c.pos + c.n).toNat L
theorem pcsT_flat (E : List En) (t : List Nat) : ∀ (L : List Chg) (f : Nat), (pcsT E t f L).flatten = patF E t f L
  | [], f => by simp [pcsT, patF]
  | c :: L, f => by
    show ((t.drop f).take (c.pos.toNat - f) :: txt E c.id :: pcsT E t (c.pos + c.n).toNat L).flatten = _
    rw [List.flatten_cons, List.flatten_cons, pcsT_flat E t L]; rfl
theorem ofsF_len : ∀ L : List Chg, (ofsF L).length = 2 * L.length
  | [] => rfl
  | c :: L => by show (ofsF L).length + 1 + 1 = _; rw [ofsF_len L, List.length_cons]; omega
theorem pcsT_len (E : List En) (t : List Nat) : ∀ (L : List Chg) (f : Nat), (pcsT E t f L).length = 2 * L.length + 1
  | [], _ => rfl
  | c :: L, f => by show (pcsT E t (c.pos + c.n).toNat L).length + 1 + 1 = _; rw [pcsT_len E t L, List.length_cons]; omega
/-- Part j of a text that is cut, from an offset on. -/
def partG (t : List Nat) (f : Nat) (os : List Nat) (j : Nat) : List Nat := (t.drop (if j = 0 then f else os.getD (j - 1) 0)).take (os.getD j t.length - (if j = 0 then f else os.getD (j - 1) 0))
theorem partG_zero (t os : List Nat) (j : Nat) : partG t 0 os j = partF t os j := rfl
theorem partG_two (t : List Nat) (f a b : Nat) (os : List Nat) (j : Nat) : partG t f (a :: b :: os) (j + 2) = partG t b os j := by
  unfold partG
  rw [if_neg (by omega)]
  cases j with
  | zero => simp
  | succ j => simp
theorem pcsT_even (E : List En) (t : List Nat) : ∀ (L : List Chg) (f i : Nat), i ≤ L.length → (pcsT E t f L)[2 * i]? = some (partG t f (ofsF L) (2 * i))
  | [], f, i, h => by
    simp at h; subst h
    simp [pcsT, partG, ofsF, List.take_of_length_le]
  | c :: L, f, 0, _ => by simp [pcsT, partG, ofsF]
  | c :: L, f, i + 1, h => by
    show (pcsT E t f (c :: L))[2 * i + 2]? = some (partG t f (c.pos.toNat :: (c.pos + c.n).toNat :: ofsF L) (2 * i + 2))
    rw [partG_two]
    show ((t.drop f).take (c.pos.toNat - f) :: txt E c.id :: pcsT E t (c.pos + c.n).toNat L)[2 * i + 2]? = _
    rw [List.getElem?_cons_succ, List.getElem?_cons_succ]
    exact pcsT_even E t L _ i (by simpa using h)
theorem pcsT_odd (E : List En) (t : List Nat) : ∀ (L : List Chg) (f i : Nat) (h : i < L.length), (pcsT E t f L)[2 * i + 1]? = some (txt E L[i].id)
  | c :: L, f, 0, _ => by simp [pcsT]
  | c :: L, f, i + 1, h => by
    show ((t.drop f).take (c.pos.toNat - f) :: txt E c.id :: pcsT E t (c.pos + c.n).toNat L)[2 * i + 1 + 2]? = _
    rw [List.getElem?_cons_succ, List.getElem?_cons_succ]
    exact pcsT_odd E t L _ i (by simpa using h)
theorem patF_ext {E E2 : List En} (hx : Ext E E2) (t : List Nat) : ∀ (L : List Chg) (f : Nat), (∀ c ∈ L, c.id ≤ E.length) → patF E2 t f L = patF E t f L
  | [], _, _ => rfl
  | c :: L, f, h => by
    show _ ++ (txt E2 c.id ++ patF E2 t _ L) = _ ++ (txt E c.id ++ patF E t _ L)
    rw [hx.txt (h c (by simp)), patF_ext hx t L _ (fun d hd => h d (by simp [hd]))]
/-- The length of the patched text. -/
theorem patF_len {E : List En} {t : List Nat} : ∀ (L : List Chg) (last : Int) (f : Nat), formF t.length last L = true → (f : Int) ≤ last + 1 → f ≤ t.length → ((patF E t f L).length : Int) = t.length - f - delF L + insF E L
  | [], last, f, _, _, h => by
    show ((t.drop f).length : Int) = _
    rw [List.length_drop]
    simp only [delF, insF]; omega
  | c :: L, last, f, h, hf, hft => by
    obtain ⟨g1, g2, g3, g4, g5, g6⟩ := chg_form h
    have ih := patF_len (E := E) (t := t) L (c.pos + c.n) (c.pos + c.n).toNat g5 (by omega) (by omega)
    show (((t.drop f).take (c.pos.toNat - f) ++ (txt E c.id ++ patF E t (c.pos + c.n).toNat L)).length : Int) = _
    rw [List.length_append, List.length_append, List.length_take, List.length_drop]
    have e1 : delF (c :: L) = c.n + delF L := rfl
    have e2 : insF E (c :: L) = (txt E c.id).length + insF E L := rfl
    rw [e1, e2]
    omega
/-- A kept letter stands where the map says. -/
theorem patF_map {E : List En} {t : List Nat} {y : Int} : ∀ (L : List Chg) (last s : Int) (f : Nat), formF t.length last L = true → (f : Int) ≤ last + 1 → (f : Int) ≤ y → y < t.length → (mapF E y s L).2.2 = true →
    (f : Int) + s ≤ (mapF E y s L).1 ∧ (patF E t f L)[((mapF E y s L).1 - (f + s)).toNat]? = t[y.toNat]?
  | [], last, s, f, _, _, hfy, hyt, _ => by
    show (f : Int) + s ≤ y + s ∧ (t.drop f)[(y + s - (f + s)).toNat]? = t[y.toNat]?
    refine ⟨by omega, ?_⟩
    rw [List.getElem?_drop]
    congr 1; omega
  | c :: L, last, s, f, h, hf, hfy, hyt, hk => by
    obtain ⟨g1, g2, g3, g4, g5, g6⟩ := chg_form h
    rw [mapF_cons] at hk ⊢
    show _ ∧ ((t.drop f).take (c.pos.toNat - f) ++ (txt E c.id ++ patF E t (c.pos + c.n).toNat L))[_]? = _
    by_cases h1 : c.pos > y
    · rw [if_pos h1]
      dsimp only
      refine ⟨by omega, ?_⟩
      rw [List.getElem?_append_left (by rw [List.length_take, List.length_drop]; omega), List.getElem?_take_of_lt (by omega), List.getElem?_drop]
      congr 1; omega
    · rw [if_neg h1] at hk ⊢
      by_cases h2 : y < c.pos + c.n
      · rw [if_pos h2] at hk; cases hk
      · rw [if_neg h2] at hk ⊢
        obtain ⟨i1, i2⟩ := patF_map (E := E) (t := t) (y := y) L (c.pos + c.n) (s + ((txt E c.id).length - c.n)) (c.pos + c.n).toNat g5 (by omega) (by omega) hyt hk
        have hlo : ((c.pos + c.n).toNat : Int) = c.pos + c.n := by omega
        rw [hlo] at i1 i2
        refine ⟨by omega, ?_⟩
        rw [List.getElem?_append_right (by rw [List.length_take, List.length_drop]; omega), List.length_take, List.length_drop, List.getElem?_append_right (by omega), ← i2]
        congr 1; omega
end M
end Go.Proofs.Ytplccefjljdjnaa
