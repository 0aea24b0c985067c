/- Folds of the segments of a list. No program. -/
import Derived.Test.YtpgnhnimndagpaaLists
namespace Go.Proofs.Ytpgnhnimndagpaa
def seg {α : Type} (f : α → α → α) (u : α) (L : List α) (a b : Nat) : α := fold1 f u ((L.drop a).take (b - a))
section
variable {α : Type} {f : α → α → α} {u : α} {L : List α}
theorem fold1_append (ha : ∀ x y z, f (f x y) z = f x (f y z)) : ∀ (A B : List α), A ≠ [] → B ≠ [] → fold1 f u (A ++ B) = f (fold1 f u A) (fold1 f u B) := by
  have h : ∀ (B : List α) (x y : α), B.foldl f (f x y) = f x (B.foldl f y) := by
    intro B
    induction B with
    | nil => intro x y; rfl
    | cons b B ih => intro x y; simp only [List.foldl_cons]; rw [ha, ih]
  intro A B hA hB
  cases A with
  | nil => exact absurd rfl hA
  | cons a A =>
    cases B with
    | nil => exact absurd rfl hB
    | cons b B =>
      simp only [fold1, List.cons_append, List.foldl_append, List.foldl_cons]
      exact h B _ _
theorem seg_one {a : Nat} (h : a < L.length) : seg f u L a (a + 1) = L[a] := by
  unfold seg
  rw [show a + 1 - a = 1 by omega, List.drop_eq_getElem_cons h]
  rfl
theorem seg_join (ha : ∀ x y z, f (f x y) z = f x (f y z)) {a b c : Nat} (h1 : a < b) (h2 : b < c) (h3 : c ≤ L.length) : seg f u L a c = f (seg f u L a b) (seg f u L b c) := by
  unfold seg
  rw [← fold1_append ha]
  · congr 1
    rw [show c - a = (b - a) + (c - b) by omega, List.take_add, List.drop_drop, show a + (b - a) = b by omega]
  · intro e; have := congrArg List.length e; simp at this; omega
  · intro e; have := congrArg List.length e; simp at this; omega
theorem seg_snoc {a b : Nat} (h1 : a < b) (h2 : b < L.length) : seg f u L a (b + 1) = f (seg f u L a b) L[b] := by
  have h := fold1_succ f u (L.drop a) (b - a) (by omega) (by simp; omega)
  unfold seg
  rw [show b + 1 - a = b - a + 1 by omega, h]
  simp [show a + (b - a) = b by omega]
theorem seg_cons (ha : ∀ x y z, f (f x y) z = f x (f y z)) {a b : Nat} (h1 : a + 1 < b) (h2 : b ≤ L.length) : seg f u L a b = f L[a] (seg f u L (a + 1) b) := by
  rw [seg_join ha (b := a + 1) (by omega) h1 h2, seg_one (by omega)]

/-! ### The window's parts -/
def frontF (f : α → α → α) (u : α) (L : List α) (n i : Nat) : α := seg f u L (i - i % n) (i + 1)
def endF (f : α → α → α) (u : α) (L : List α) (n i : Nat) : α := seg f u L i (min L.length (i - i % n + n))
def winF (f : α → α → α) (u : α) (L : List α) (n i : Nat) : α := seg f u L i (i + n)
theorem front_start {n i : Nat} (h : i % n = 0) (hi : i < L.length) : frontF f u L n i = L[i] := by
  unfold frontF; rw [h, Nat.sub_zero]; exact seg_one hi
theorem mod_next {n i : Nat} (hn : 0 < n) (h : (i + 1) % n ≠ 0) : (i + 1) % n = i % n + 1 := by
  have h1 := Nat.mod_lt i hn
  have hd := Nat.div_add_mod i n
  by_cases e : i % n + 1 = n
  · exfalso; apply h
    have : i + 1 = n * (i / n + 1) := by rw [Nat.mul_add, Nat.mul_one]; omega
    rw [this, Nat.mul_mod_right]
  · have : i + 1 = (i % n + 1) + n * (i / n) := by omega
    rw [this, Nat.add_mul_mod_self_left]
    exact Nat.mod_eq_of_lt (by omega)
theorem mod_step {n i : Nat} (hn : 0 < n) (h : i % n ≠ n - 1) : (i + 1) % n = i % n + 1 := by
  have h1 := Nat.mod_lt i hn
  have hd := Nat.div_add_mod i n
  have : i + 1 = (i % n + 1) + n * (i / n) := by omega
  rw [this, Nat.add_mul_mod_self_left]
  exact Nat.mod_eq_of_lt (by omega)
theorem front_next {n i : Nat} (hn : 0 < n) (h : (i + 1) % n ≠ 0) (hi : i + 1 < L.length) : frontF f u L n (i + 1) = f (frontF f u L n i) L[i + 1] := by
  have e := mod_next hn h
  have h1 : i % n ≤ i := Nat.mod_le _ _
  unfold frontF
  rw [show i + 1 - (i + 1) % n = i - i % n by omega]
  exact seg_snoc (by omega) hi
theorem end_last {n i : Nat} (hn : 0 < n) (h : ¬ (i % n ≠ n - 1 ∧ i + 1 < L.length)) (hi : i < L.length) : endF f u L n i = L[i] := by
  have h1 := Nat.mod_lt i hn
  have h2 : i % n ≤ i := Nat.mod_le _ _
  unfold endF
  rw [show min L.length (i - i % n + n) = i + 1 by omega]
  exact seg_one hi
theorem end_next (ha : ∀ x y z, f (f x y) z = f x (f y z)) {n i : Nat} (hn : 0 < n) (h1 : i % n ≠ n - 1) (hi : i + 1 < L.length) : endF f u L n i = f L[i] (endF f u L n (i + 1)) := by
  have h2 := Nat.mod_lt i hn
  have h3 : i % n ≤ i := Nat.mod_le _ _
  have e : (i + 1) % n = i % n + 1 := by
    apply mod_next hn
    intro h0
    have := Nat.mod_lt i hn
    have h5 : (i + 1) % n = i % n + 1 := by
      rw [Nat.add_mod]
      rw [Nat.mod_eq_of_lt (a := 1) (by omega), Nat.mod_eq_of_lt (by omega)]
    omega
  unfold endF
  rw [show i + 1 - (i + 1) % n = i - i % n by omega]
  exact seg_cons ha (by omega) (by omega)
theorem win_start {n i : Nat} (h : i % n = 0) (hi : i + n ≤ L.length) : endF f u L n i = winF f u L n i := by
  unfold endF winF; rw [h, Nat.sub_zero, Nat.min_eq_right hi]
theorem mod_win {n i : Nat} (hn : 0 < n) (h : i % n ≠ 0) : (i + n - 1) % n = i % n - 1 := by
  have h2 := Nat.mod_lt i hn
  have hd := Nat.div_add_mod i n
  have : i + n - 1 = (i % n - 1) + n * (i / n + 1) := by rw [Nat.mul_add, Nat.mul_one]; omega
  rw [this, Nat.add_mul_mod_self_left]
  exact Nat.mod_eq_of_lt (by omega)
theorem win_join (ha : ∀ x y z, f (f x y) z = f x (f y z)) {n i : Nat} (hn : 0 < n) (h : i % n ≠ 0) (hi : i + n ≤ L.length) : winF f u L n i = f (endF f u L n i) (frontF f u L n (i + n - 1)) := by
  have h2 := Nat.mod_lt i hn
  have h3 : i % n ≤ i := Nat.mod_le _ _
  have e : (i + n - 1) % n = i % n - 1 := by
    have hd := Nat.div_add_mod i n
    have : i + n - 1 = (i % n - 1) + n * (i / n + 1) := by rw [Nat.mul_add, Nat.mul_one]; omega
    rw [this, Nat.add_mul_mod_self_left]
    exact Nat.mod_eq_of_lt (by omega)
  unfold endF frontF winF
  rw [e, show i + n - 1 + 1 = i + n by omega, show i + n - 1 - (i % n - 1) = i - i % n + n by omega, Nat.min_eq_right (by omega)]
  exact seg_join ha (by omega) (by omega) hi
end
end Go.Proofs.Ytpgnhnimndagpaa
