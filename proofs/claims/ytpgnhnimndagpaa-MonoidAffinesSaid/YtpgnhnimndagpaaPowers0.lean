/- Powers of affine functions: plain laws. -/
import Derived.Test.YtpgnhnimndagpaaAwakeM
import Derived.Test.YtpgnhnimndagpaaPowW
namespace Go.Proofs.Ytpgnhnimndagpaa
open Go.RowKit
namespace P
attribute [local go_sem] Oper.semAt_some

def inR (x : Int × Int) : Prop := 0 ≤ x.1 ∧ x.1 < 18446744073709551616 ∧ 0 ≤ x.2 ∧ x.2 < 18446744073709551616
theorem joinF_inR (x y : Int × Int) : inR (joinF x y) := by
  simp only [inR, joinF, u64_emod]; omega
theorem pw_inR {x : Int × Int} (h : inR x) (k : Nat) : inR (pw joinF F.u x k) := by
  rcases Nat.eq_zero_or_pos k with rfl | h0
  · simp [pw_zero, F.u, inR]
  · rcases Nat.eq_zero_or_pos (k - 1) with h1 | h1
    · obtain rfl : k = 1 := by omega
      exact h
    · obtain ⟨m, rfl⟩ : ∃ m, k = m + 1 := ⟨k - 1, by omega⟩
      rw [pw_add joinF_assoc x (by omega) (by omega)]
      exact joinF_inR _ _
theorem unit_l {x : Int × Int} (h : inR x) : joinF F.u x = x := by
  obtain ⟨x1, x2⟩ := x
  simp only [inR] at h
  simp only [joinF, u64_emod, F.u, Prod.mk.injEq]
  omega
theorem unit_r {x : Int × Int} (h : inR x) : joinF x F.u = x := by
  obtain ⟨x1, x2⟩ := x
  simp only [inR] at h
  simp only [joinF, u64_emod, F.u, Prod.mk.injEq]
  omega
theorem pow_sum {x : Int × Int} (h : inR x) (a b : Nat) : pw joinF F.u x (a + b) = joinF (pw joinF F.u x a) (pw joinF F.u x b) :=
  pw_add' joinF_assoc x a b (unit_l (pw_inR h b)) (unit_r (pw_inR h a))
theorem pow_prod (x : Int × Int) (a b : Nat) : pw joinF F.u (pw joinF F.u x a) b = pw joinF F.u x (a * b) := pw_mul' joinF_assoc (by decide) x a b
abbrev pS (s : ByteArray) (j : Nat) : ByteArray := pw W.jn W.u s j
theorem words_pow (s : ByteArray) (j : Nat) : pS s j ++ s = pS s (j + 1) := by
  show W.jn (pw W.jn W.u s j) s = pw W.jn W.u s (j + 1)
  rcases Nat.eq_zero_or_pos j with rfl | h
  · exact ba_empty s
  · rw [pw_add W.jn_assoc s h (by omega)]; rfl
end P
end Go.Proofs.Ytpgnhnimndagpaa
