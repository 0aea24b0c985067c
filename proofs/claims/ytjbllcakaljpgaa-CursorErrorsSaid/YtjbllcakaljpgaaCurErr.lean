/- cursor.New that fails. -/
import Derived.Test.YtjbllcakaljpgaaWtMiss
import Derived.Test.YtjbllcakaljpgaaCurNil
namespace Go.Proofs.Ytjbllcakaljpgaa
open Go.RowKit Go.Lib
namespace M
attribute [local go_sem] Oper.semAt_some
set_option maxRecDepth 100000 in
set_option maxHeartbeats 1000000 in
theorem cnew_none (W : World) (i : Int) : Calls Try.prog 35 #[.pointer none, .int .i64 i] W fun e w' => e = .returned (.tuple #[.pointer none, err 5]) ∧ Below W.heap.size W w' := by
  have HW := Lib.hid (weight_none W i)
  unfold zeroW err at HW
  unfold err
  go_enter Try.func35, Try.ntmps35
  go_wp2_with fail
  refine HW.out.mono ?_; rintro e w1 ⟨rfl, b1⟩
  obtain ⟨wz, w2, hz, hs, bz, b2, ⟨p0, p1, p2, p3, p4, p5⟩, ⟨q0, q1, q2, q3, q4, q5⟩, x0, x1, x2, x3, x4, x5⟩ := newZw w1
  have B2 := Lib.hid (Below.after b1 b2)
  clear b1 bz b2
  go_wp2_with fail
  go_ret2
  exact ⟨rfl, B2.out⟩
set_option maxRecDepth 100000 in
set_option maxHeartbeats 1000000 in
theorem cnew_miss {n0 B most : Nat} {W : World} {E : List En} (h : StAt n0 W B most E) {i : Int} (hi : ¬ (0 ≤ i ∧ i ≤ E.length)) : Calls Try.prog 35 #[.pointer (some ⟨B, 0, none⟩), .int .i64 i] W fun e w' => e = .returned (.tuple #[.pointer none, err 1]) ∧ Below W.heap.size W w' := by
  have HW := Lib.hid (weight_miss h hi)
  unfold zeroW err at HW
  unfold err
  clear h hi
  go_enter Try.func35, Try.ntmps35
  go_wp2_with fail
  refine HW.out.mono ?_; rintro e w1 ⟨rfl, b1⟩
  obtain ⟨wz, w2, hz, hs, bz, b2, ⟨p0, p1, p2, p3, p4, p5⟩, ⟨q0, q1, q2, q3, q4, q5⟩, x0, x1, x2, x3, x4, x5⟩ := newZw w1
  have B2 := Lib.hid (Below.after b1 b2)
  clear b1 bz b2
  go_wp2_with fail
  go_ret2
  exact ⟨rfl, B2.out⟩
end M
end Go.Proofs.Ytjbllcakaljpgaa
