/- patch.unknown, patch.size. -/
import Derived.Test.YtplccefjljdjnaaDep0
set_option linter.unusedVariables false
set_option linter.unusedSimpArgs false
namespace Go.Proofs.Ytplccefjljdjnaa
open Go.RowKit Go.Lib
namespace M
attribute [local go_sem] Oper.semAt_some
section
variable {n0 B most : Nat} {W : World} {E : List En}
set_option maxRecDepth 100000 in
theorem unknown_any (h : StAt n0 W B most E) {i : Nat} (hi : i ≤ E.length) :
    Calls Try.prog 69 #[.pointer (some ⟨B, 0, none⟩), .int .i64 i] W fun e w' => e = .returned (.bool false) ∧ w' = W := by
  have HL := Lib.hid (slen_any h)
  have h1 : ¬ (i : Int) < 0 := by omega
  have h2 : ¬ (i : Int) > (E.length : Int) := by omega
  have h3 : ¬ E.length < i := by omega
  clear h
  go_enter Try.func69, Try.ntmps69
  go_wp2_with fail
  refine HL.out.mono ?_; rintro e w ⟨rfl, h⟩; rw [h]; clear h w
  go_wp2_with fail
  go_ret
  exact ⟨rfl, rfl⟩
set_option maxRecDepth 100000 in
set_option maxHeartbeats 1000000 in
theorem psize_any (h : StAt n0 W B most E) {i : Nat} (hi : i ≤ E.length) (hE : E.length ≤ 1048576) :
    Calls Try.prog 45 #[.pointer (some ⟨B, 0, none⟩), .int .i64 i] W fun e w' => e = .returned (.tuple #[.int .i64 (entAt E i).w.len, .nilIface]) ∧ Below W.heap.size W w' := by
  have HW := Lib.hid (weight_any h hi hE)
  obtain ⟨u, hu⟩ : ∃ u, (entAt E i).w = u := ⟨_, rfl⟩
  rw [hu] at HW ⊢
  unfold wtV at HW
  clear h hu
  go_enter Try.func45, Try.ntmps45
  go_wp2_with fail
  refine HW.out.mono ?_; rintro e w1 ⟨rfl, b1⟩
  obtain ⟨wz, w2, hz, hs, kw, bw, ⟨p0, p1, p2, p3, p4, p5⟩, q0, q1, q2, q3, q4, q5⟩ := newWt w1 u
  obtain ⟨x0, x1, x2, x3, x4, x5⟩ := kw.cells
  have B2 := Lib.hid (Below.after b1 bw)
  clear b1 kw bw
  go_wp2_with fail
  go_ret2
  exact ⟨rfl, B2.out⟩
end
end M
end Go.Proofs.Ytplccefjljdjnaa
