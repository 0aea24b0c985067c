/- What nil answers. -/
import Derived.Test.YtlfodhejpbjfcaaSess1
namespace Go.Proofs.Ytlfodhejpbjfcaa
open Go.RowKit
namespace S
attribute [local go_sem] Oper.semAt_some

set_option maxRecDepth 100000 in
theorem nil_commit (W : World) :
    Calls Try.prog 20 #[.pointer none] W fun e w' => e = .returned (.tuple #[.int .i64 0, err 5]) ∧ w' = W := by
  go_enter Try.func20, Try.ntmps20
  go_wp2_with fail
  go_ret2
  exact ⟨rfl, rfl⟩
set_option maxRecDepth 100000 in
theorem nil_list (W : World) :
    Calls Try.prog 14 #[.pointer none] W fun e w' => e = .returned (.slice none 0 0) ∧ Below W.heap.size W w' := by
  go_enter Try.func14, Try.ntmps14
  go_wp2_with fail
  go_ret
  exact ⟨rfl, Below.refl _ _⟩
set_option maxRecDepth 100000 in
theorem nil_run (W : World) (v : Value) (k : Int) :
    Calls Try.prog 28 #[.pointer none, v, .int .i64 k] W fun e w' => e = .returned (.slice none 0 0) ∧ Below W.heap.size W w' := by
  go_enter Try.func28, Try.ntmps28
  go_wp2_with fail
  go_ret
  exact ⟨rfl, Below.refl _ _⟩
end S
end Go.Proofs.Ytlfodhejpbjfcaa
