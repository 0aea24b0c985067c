/- The cursor: New. -/
import Derived.Test.YtjbllcakaljpgaaCur0
import Derived.Test.YtjbllcakaljpgaaStoreNew
namespace Go.Proofs.Ytjbllcakaljpgaa
open Go.RowKit Go.Lib
namespace M
attribute [local go_sem] Oper.semAt_some
set_option maxRecDepth 100000 in
set_option maxHeartbeats 1000000 in
theorem cnew_any {n0 B most : Nat} {W : World} {E : List En} (h : StAt n0 W B most E) {i : Nat} (hi : i ≤ E.length) (hE : E.length ≤ 1048576) :
    Calls Try.prog 35 #[.pointer (some ⟨B, 0, none⟩), .int .i64 i] W fun e w' => ∃ c, e = .returned (.tuple #[.pointer (some ⟨c, 0, none⟩), .nilIface]) ∧ W.heap.size ≤ c ∧ CuC w' c B i (entAt E i).w.len 0 ∧ Below W.heap.size W w' := by
  have HW := Lib.hid (weight_any h hi hE)
  obtain ⟨u, hu⟩ : ∃ u, (entAt E i).w = u := ⟨_, rfl⟩
  rw [hu] at HW ⊢
  unfold wtV at HW
  clear hu h
  go_enter Try.func35, Try.ntmps35
  go_wp2_with fail
  refine HW.out.mono ?_; rintro e w1 ⟨rfl, b1⟩
  obtain ⟨wg, hwg⟩ : ∃ g, w1.heap.size = g := ⟨_, rfl⟩
  obtain ⟨Ww, hWw⟩ : ∃ w, w1.alloc (.cells #[.int .i64 0, .int .i64 0, .int .i64 0, .int .i64 0, .int .u64 0, .int .u64 0] 52) = w := ⟨_, rfl⟩
  have kw0 : WtC Ww wg w0 := by rw [← hWw, ← hwg]; exact heap_new' _ _
  have bw0 : Below w1.heap.size w1 Ww := by rw [← hWw]; exact (Below.refl _ _).alloc (Nat.le_refl _) _
  obtain ⟨p0, p1, p2, p3, p4, p5⟩ := kw0.cells
  have q0 := kw0.free 0; have q1 := kw0.free 1; have q2 := kw0.free 2; have q3 := kw0.free 3; have q4 := kw0.free 4; have q5 := kw0.free 5
  simp only [w0] at p0 p1 p2 p3 p4 p5
  obtain ⟨w2, hw2⟩ : ∃ w, setW Ww wg u = w := ⟨_, rfl⟩
  have k2 : WtC w2 wg u := by rw [← hw2]; exact kw0.set u
  have b2 : Below w1.heap.size w1 w2 := by rw [← hw2]; exact setW_below bw0 (by omega) u
  simp only [setW] at hw2
  obtain ⟨x0, x1, x2, x3, x4, x5⟩ := k2.cells
  have B2 := Lib.hid (Below.after b1 b2)
  clear kw0 bw0 k2 b1 b2
  go_wp2_with fail
  go_ret2
  exact ⟨_, rfl, B2.out.size, heap_new' _ _, B2.out.alloc B2.out.size _⟩
end M
end Go.Proofs.Ytjbllcakaljpgaa
