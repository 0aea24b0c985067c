/- SessionNone: the walk. -/
import Derived.Test.YtlfodhejpbjfcaaAwakeS
import Derived.Test.YtlfodhejpbjfcaaNil
namespace Go.Proofs.Ytlfodhejpbjfcaa
open Go.RowKit
namespace S
attribute [local go_sem] Oper.semAt_some
theorem is_same (W : World) (c : Int) (hc : c ≠ 0) : Calls Try.prog 22 #[err c, .int .i64 c] W fun e w' => e = .returned (.bool true) ∧ w' = W :=
  (is_err W c c hc).mono fun e w ⟨h1, h2⟩ => ⟨by rw [h1, decide_eq_true rfl], h2⟩
set_option maxRecDepth 100000 in
set_option maxHeartbeats 4000000 in
theorem none_any (W : World) (s : ByteArray) (k : Int) : Calls Try.prog 9 #[.string s, .int .i64 k] W fun e w' => e = .returned (.bool true) ∧ Below W.heap.size W w' := by
  go_enter Try.func9, Try.ntmps9
  go_wp2_with fail
  refine (awake_any W).mono ?_; rintro e w1 ⟨rfl, b1⟩
  have B1 := Lib.hid b1; clear b1
  go_wp2_with fail
  refine (nil_box w1).mono ?_; rintro e w2 ⟨rfl, h⟩; rw [h]; clear h w2
  go_wp2_with fail
  refine (nil_get w1 s).mono ?_; rintro e w2 ⟨rfl, h⟩; rw [h]; clear h w2
  go_wp2_with fail
  refine (nil_commit w1).mono ?_; rintro e w2 ⟨rfl, h⟩; rw [h]; clear h w2
  go_wp2_with fail
  refine (nil_version w1).mono ?_; rintro e w2 ⟨rfl, h⟩; rw [h]; clear h w2
  go_wp2_with fail
  refine (nil_list w1).mono ?_; rintro e w2 ⟨rfl, b2⟩
  have B2 := Lib.hid (Below.step B1.out b2); clear b2
  go_wp2_with fail
  refine (nil_run w2 _ k).mono ?_; rintro e w3 ⟨rfl, b3⟩
  have B3 := Lib.hid (Below.step B2.out b3); clear b3
  go_wp2_with fail
  refine (is_same w3 5 (by decide)).mono ?_; rintro e w4 ⟨rfl, h⟩; rw [h]; clear h w4
  go_wp2_with fail
  refine (is_same w3 5 (by decide)).mono ?_; rintro e w4 ⟨rfl, h⟩; rw [h]; clear h w4
  go_wp2_with fail
  refine (nil_put w3 s k).mono ?_; rintro e w4 ⟨rfl, h⟩; rw [h]; clear h w4
  go_wp2_with fail
  refine (is_same w3 5 (by decide)).mono ?_; rintro e w4 ⟨rfl, h⟩; rw [h]; clear h w4
  go_wp2_with fail
  refine (nil_drop w3 s).mono ?_; rintro e w4 ⟨rfl, h⟩; rw [h]; clear h w4
  go_wp2_with fail
  refine (is_same w3 5 (by decide)).mono ?_; rintro e w4 ⟨rfl, h⟩; rw [h]; clear h w4
  go_wp2_with fail
  refine (nil_txnVersion w3).mono ?_; rintro e w4 ⟨rfl, h⟩; rw [h]; clear h w4
  go_wp2_with fail
  go_ret
  exact ⟨rfl, B3.out⟩
end S
end Go.Proofs.Ytlfodhejpbjfcaa
