/- The reference's Pick. -/
import Derived.Test.YtjbllcakaljpgaaLen
namespace Go.Proofs.Ytjbllcakaljpgaa
open Go.RowKit Go.Lib
namespace M
attribute [local go_sem] Oper.semAt_some
set_option maxRecDepth 100000 in
theorem pick_any (W : World) (n : Int) (m : Nat) (hm : 0 < m) (hm2 : m ≤ 1000000) : Calls Try.prog 39 #[.int .i64 n, .int .i64 m] W fun e w' => e = .returned (.int .i64 (n % (m : Int))) ∧ w' = W := by
  obtain ⟨t, ht⟩ : ∃ t, n.tmod (m : Int) = t := ⟨_, rfl⟩
  have hm0 : ¬ ((m : Int) = 0) := by omega
  have hmb : ((m : Int) == 0) = false := by simp; omega
  have hb : -(m : Int) < t ∧ t < (m : Int) := by
    rw [← ht]
    constructor
    · have := Int.tmod_lt_of_pos (-n) (b := (m : Int)) (by omega)
      rw [Int.neg_tmod] at this; omega
    · exact Int.tmod_lt_of_pos n (by omega)
  have he : n % (m : Int) = if t < 0 then t + m else t := by
    have h1 : t + (m : Int) * n.tdiv m = n := by rw [← ht]; exact Int.tmod_add_mul_tdiv n m
    have h2 : n % (m : Int) = t % (m : Int) := by rw [← h1, Int.add_mul_emod_self_left]
    rw [h2]
    split
    · rw [← Int.add_emod_right t (m : Int)]
      exact Int.emod_eq_of_lt (by omega) (by omega)
    · exact Int.emod_eq_of_lt (by omega) (by omega)
  by_cases h : t < 0
  · rw [he, if_pos h]
    have hw : IntKind.i64.wrap (t + (m : Int)) = t + (m : Int) := by rw [IntKind.wrap_i64]; omega
    go_enter Try.func39, Try.ntmps39
    go_wp2_with fail
    go_ret
    exact ⟨rfl, rfl⟩
  · rw [he, if_neg h]
    go_enter Try.func39, Try.ntmps39
    go_wp2_with fail
    go_ret
    exact ⟨rfl, rfl⟩
end M
end Go.Proofs.Ytjbllcakaljpgaa
