/- The number of an error. -/
import Derived.Test.YtplccefjljdjnaaNum
set_option linter.unusedVariables false
set_option linter.unusedSimpArgs false
namespace Go.Proofs.Ytplccefjljdjnaa
open Go.RowKit
namespace M
attribute [local go_sem] Oper.semAt_some

set_option maxRecDepth 100000 in
theorem num_nil (W : World) : Calls Try.prog 21 #[.nilIface] W fun e w' => e = .returned (.int .i64 0) ∧ w' = W := by
  go_enter Try.func21, Try.ntmps21
  go_wp2_with fail
  go_ret
  exact ⟨rfl, rfl⟩
set_option maxRecDepth 100000 in
theorem num_err (W : World) (c : Int) : Calls Try.prog 21 #[err c] W fun e w' => e = .returned (.int .i64 c) ∧ w' = W := by
  have hta : ∀ w : World, (Instr.typeAssert (.iface 54 (.int .i64 c)) 35 54 true).run Try.prog w = .ok (.tuple #[.int .i64 c, .bool true]) w := fun _ => by kernel_rfl
  unfold err
  go_enter Try.func21, Try.ntmps21
  go_wp2_with fail
  go_ret
  exact ⟨rfl, rfl⟩
theorem num_any (W : World) (c : Int) : Calls Try.prog 21 #[errV c] W fun e w' => e = .returned (.int .i64 c) ∧ w' = W := by
  unfold errV
  by_cases h : c = 0
  · rw [if_pos h, h]; exact num_nil W
  · rw [if_neg h]; exact num_err W c
set_option maxRecDepth 100000 in
theorem is_err (W : World) (c k : Int) (hk : k ≠ 0) : Calls Try.prog 26 #[err c, .int .i64 k] W fun e w' => e = .returned (.bool (decide (c = k))) ∧ w' = W := by
  have hkb : (k != 0) = true := by simpa using hk
  by_cases h : c = k
  · subst h
    go_enter Try.func26, Try.ntmps26
    go_wp2_with fail
    refine (num_err W c).mono ?_; rintro e w1 ⟨rfl, rfl⟩
    go_wp2_with fail
    go_ret
    exact ⟨by simp, rfl⟩
  · have hb : (c == k) = false := by simpa using h
    go_enter Try.func26, Try.ntmps26
    go_wp2_with fail
    refine (num_err W c).mono ?_; rintro e w1 ⟨rfl, rfl⟩
    go_wp2_with fail
    go_ret
    exact ⟨by simp [h], rfl⟩
end M
end Go.Proofs.Ytplccefjljdjnaa
