/- What a list of Makes makes: the store, the results. No walk. -/
import Derived.Test.YtjbllcakaljpgaaRuEq
namespace Go.Proofs.Ytjbllcakaljpgaa
open Go.RowKit
namespace M
/-- A Make. -/
structure Mk where
  kind : Int
  letter : Nat
  left : Int
  right : Int
  times : Int
def pk (n : Int) (m : Nat) : Nat := (n % (m : Int)).toNat
theorem pk_lt (n : Int) {m : Nat} (h : 0 < m) : pk n m < m := by
  unfold pk
  have h1 := Int.emod_nonneg n (show (m : Int) ≠ 0 by omega)
  have h2 := Int.emod_lt_of_pos n (show (0 : Int) < m by omega)
  omega
def resAt (R : List Nat) (n : Int) : Nat := (R[pk n R.length]?).getD 0
/-- One Make: the store, the result. -/
def oneF (E : List En) (R : List Nat) (m : Mk) : List En × Nat :=
  if pk m.kind 4 = 0 then addF E (letE m.letter)
  else if pk m.kind 4 = 3 then ((powF E (resAt R m.left) (max m.times 0).toNat).1, (powF E (resAt R m.left) (max m.times 0).toNat).2.1)
  else ((pairF E (resAt R m.left) (resAt R m.right)).1, (pairF E (resAt R m.left) (resAt R m.right)).2.1)
/-- All of them. -/
def bldF : List Mk → List En → List Nat → List En × List Nat
  | [], E, R => (E, R)
  | m :: L, E, R => bldF L (oneF E R m).1 (R ++ [(oneF E R m).2])
theorem resAt_le {R : List Nat} {n : Nat} (h : ∀ x ∈ R, x ≤ n) (i : Int) : resAt R i ≤ n := by
  unfold resAt
  cases hx : R[pk i R.length]? with
  | none => simp
  | some x => exact h x (List.mem_of_getElem? hx)
theorem oneF_wf {E : List En} (h : Wf E) {R : List Nat} (hR : ∀ x ∈ R, x ≤ E.length) {m : Mk} (hl : m.letter < 256) : Wf (oneF E R m).1 ∧ (oneF E R m).1.length ≤ E.length + 1 ∧ E.length ≤ (oneF E R m).1.length ∧ (oneF E R m).2 ≤ (oneF E R m).1.length := by
  unfold oneF
  split
  · have := addF_wf h (letE_ok E hl)
    exact ⟨this.1, this.2.1, by unfold addF; split <;> simp, this.2.2.2⟩
  · split
    · exact powF_wf h (resAt_le hR m.left)
    · exact pairF_wf h (resAt_le hR m.left) (resAt_le hR m.right)
theorem bldF_wf : ∀ (L : List Mk) {E : List En} {R : List Nat}, Wf E → (∀ x ∈ R, x ≤ E.length) → (∀ m ∈ L, m.letter < 256) → Wf (bldF L E R).1 ∧ (bldF L E R).1.length ≤ E.length + L.length ∧ (bldF L E R).2.length = R.length + L.length ∧ ∀ x ∈ (bldF L E R).2, x ≤ (bldF L E R).1.length
  | [], E, R, h, hR, _ => ⟨h, by simp [bldF], by simp [bldF], hR⟩
  | m :: L, E, R, h, hR, hm => by
    obtain ⟨a, b, c, d⟩ := oneF_wf h hR (m := m) (hm m (List.mem_cons_self ..))
    have ih := bldF_wf L (E := (oneF E R m).1) (R := R ++ [(oneF E R m).2]) a (fun x hx => by
      rcases List.mem_append.1 hx with hx | hx
      · exact Nat.le_trans (hR x hx) c
      · simp only [List.mem_singleton] at hx; subst hx; exact d) (fun x hx => hm x (List.mem_cons_of_mem _ hx))
    obtain ⟨i1, i2, i3, i4⟩ := ih
    refine ⟨i1, ?_, ?_, i4⟩
    · show (bldF L _ _).1.length ≤ _
      simp only [List.length_cons]; omega
    · show (bldF L _ _).2.length = _
      rw [i3]; simp; omega
end M
end Go.Proofs.Ytjbllcakaljpgaa
