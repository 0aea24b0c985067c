/- Powers. No program. -/
import Derived.Test.YtpgnhnimndagpaaSegs
namespace Go.Proofs.Ytpgnhnimndagpaa
def pw {α : Type} (f : α → α → α) (u : α) (x : α) (k : Nat) : α := fold1 f u (List.replicate k x)
section
variable {α : Type} {f : α → α → α} {u : α}
theorem pw_zero (x : α) : pw f u x 0 = u := rfl
theorem pw_one (x : α) : pw f u x 1 = x := rfl
theorem pw_add (ha : ∀ x y z, f (f x y) z = f x (f y z)) (x : α) {a b : Nat} (h1 : 0 < a) (h2 : 0 < b) : pw f u x (a + b) = f (pw f u x a) (pw f u x b) := by
  unfold pw
  rw [← List.replicate_append_replicate, fold1_append ha]
  · intro e; have := congrArg List.length e; simp at this; omega
  · intro e; have := congrArg List.length e; simp at this; omega
theorem pw_mul (ha : ∀ x y z, f (f x y) z = f x (f y z)) (x : α) {a : Nat} (h1 : 0 < a) (b : Nat) (hb : 0 < b) : pw f u (pw f u x a) b = pw f u x (a * b) := by
  induction b with
  | zero => omega
  | succ b ih =>
    rcases Nat.eq_zero_or_pos b with rfl | h
    · rw [Nat.zero_add, Nat.mul_one]; rfl
    · rw [pw_add ha _ h (by omega), ih h, pw_one, Nat.mul_add, Nat.mul_one, pw_add ha _ (Nat.mul_pos h1 h) h1]
/-- Where u is a unit, exponents may be 0. -/
theorem pw_add' (ha : ∀ x y z, f (f x y) z = f x (f y z)) (x : α) (a b : Nat) (hl : f u (pw f u x b) = pw f u x b) (hr : f (pw f u x a) u = pw f u x a) : pw f u x (a + b) = f (pw f u x a) (pw f u x b) := by
  rcases Nat.eq_zero_or_pos a with rfl | h1
  · rw [Nat.zero_add, pw_zero, hl]
  · rcases Nat.eq_zero_or_pos b with rfl | h2
    · rw [Nat.add_zero, pw_zero, hr]
    · exact pw_add ha x h1 h2
theorem pw_unit (ha : ∀ x y z, f (f x y) z = f x (f y z)) (hu : f u u = u) (b : Nat) : pw f u u b = u := by
  induction b with
  | zero => rfl
  | succ b ih =>
    rcases Nat.eq_zero_or_pos b with rfl | h
    · rfl
    · rw [pw_add ha _ h (by omega), ih, pw_one, hu]
theorem pw_mul' (ha : ∀ x y z, f (f x y) z = f x (f y z)) (hu : f u u = u) (x : α) (a b : Nat) : pw f u (pw f u x a) b = pw f u x (a * b) := by
  rcases Nat.eq_zero_or_pos a with rfl | h1
  · rw [Nat.zero_mul, pw_zero, pw_unit ha hu]
  · rcases Nat.eq_zero_or_pos b with rfl | h2
    · rfl
    · exact pw_mul ha x h1 b h2
end
end Go.Proofs.Ytpgnhnimndagpaa
