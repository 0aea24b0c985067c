/- The number of an error. -/
import Derived.Test.YtlfodhejpbjfcaaSess1
namespace Go.Proofs.Ytlfodhejpbjfcaa
open Go.RowKit
namespace S
attribute [local go_sem] Oper.semAt_some

set_option maxRecDepth 100000 in
theorem num_nil (W : World) : Calls Try.prog 23 #[.nilIface] W fun e w' => e = .returned (.int .i64 0) ∧ w' = W := by
  go_enter Try.func23, Try.ntmps23
  go_wp2_with fail
  go_ret
  exact ⟨rfl, rfl⟩
set_option maxRecDepth 100000 in
theorem num_err (W : World) (c : Int) : Calls Try.prog 23 #[err c] W fun e w' => e = .returned (.int .i64 c) ∧ w' = W := by
  have hta : ∀ w : World, (Instr.typeAssert (.iface 60 (.int .i64 c)) 51 60 true).run Try.prog w = .ok (.tuple #[.int .i64 c, .bool true]) w := fun _ => by kernel_rfl
  unfold err
  go_enter Try.func23, Try.ntmps23
  go_wp2_with fail
  go_ret
  exact ⟨rfl, rfl⟩
theorem num_any (W : World) (c : Int) : Calls Try.prog 23 #[errV c] W fun e w' => e = .returned (.int .i64 c) ∧ w' = W := by
  unfold errV
  by_cases h : c = 0
  · rw [if_pos h, h]; exact num_nil W
  · rw [if_neg h]; exact num_err W c
set_option maxRecDepth 100000 in
theorem is_err (W : World) (c k : Int) (hk : k ≠ 0) : Calls Try.prog 22 #[err c, .int .i64 k] W fun e w' => e = .returned (.bool (decide (c = k))) ∧ w' = W := by
  have hkb : (k != 0) = true := by simpa using hk
  by_cases h : c = k
  · subst h
    go_enter Try.func22, Try.ntmps22
    go_wp2_with fail
    refine (num_err W c).mono ?_; rintro e w1 ⟨rfl, rfl⟩
    go_wp2_with fail
    go_ret
    exact ⟨by simp, rfl⟩
  · have hb : (c == k) = false := by simpa using h
    go_enter Try.func22, Try.ntmps22
    go_wp2_with fail
    refine (num_err W c).mono ?_; rintro e w1 ⟨rfl, rfl⟩
    go_wp2_with fail
    go_ret
    exact ⟨by simp [h], rfl⟩
end S
end Go.Proofs.Ytlfodhejpbjfcaa
