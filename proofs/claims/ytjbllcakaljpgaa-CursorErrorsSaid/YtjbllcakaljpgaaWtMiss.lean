/- intern's Weight: a nil store, an unknown number. -/
import Derived.Test.YtjbllcakaljpgaaAccAt
namespace Go.Proofs.Ytjbllcakaljpgaa
open Go.RowKit Go.Lib
namespace M
attribute [local go_sem] Oper.semAt_some
abbrev zeroW : Value := .agg #[.int .i64 0, .int .i64 0, .int .i64 0, .int .i64 0, .int .u64 0, .int .u64 0]
/-- A zero weight's box, into which zeros are laid. -/
theorem newZw (w : World) : ∃ wz w2, w.alloc (.cells #[.int .i64 0, .int .i64 0, .int .i64 0, .int .i64 0, .int .u64 0, .int .u64 0] 52) = wz ∧
    (((((wz.setCell ⟨w.heap.size, 0, none⟩ (.int .i64 0)).setCell ⟨w.heap.size, 1, none⟩ (.int .i64 0)).setCell ⟨w.heap.size, 2, none⟩ (.int .i64 0)).setCell ⟨w.heap.size, 3, none⟩ (.int .i64 0)).setCell ⟨w.heap.size, 4, none⟩ (.int .u64 0)).setCell ⟨w.heap.size, 5, none⟩ (.int .u64 0) = w2 ∧
    Below w.heap.size w wz ∧ Below w.heap.size w w2 ∧ (wz.cell? ⟨w.heap.size, 0, none⟩ = some (.int .i64 0) ∧ wz.cell? ⟨w.heap.size, 1, none⟩ = some (.int .i64 0) ∧ wz.cell? ⟨w.heap.size, 2, none⟩ = some (.int .i64 0) ∧ wz.cell? ⟨w.heap.size, 3, none⟩ = some (.int .i64 0) ∧ wz.cell? ⟨w.heap.size, 4, none⟩ = some (.int .u64 0) ∧ wz.cell? ⟨w.heap.size, 5, none⟩ = some (.int .u64 0)) ∧
    (wz.frozen? ⟨w.heap.size, 0, none⟩ = false ∧ wz.frozen? ⟨w.heap.size, 1, none⟩ = false ∧ wz.frozen? ⟨w.heap.size, 2, none⟩ = false ∧ wz.frozen? ⟨w.heap.size, 3, none⟩ = false ∧ wz.frozen? ⟨w.heap.size, 4, none⟩ = false ∧ wz.frozen? ⟨w.heap.size, 5, none⟩ = false) ∧
    (w2.cell? ⟨w.heap.size, 0, none⟩ = some (.int .i64 0) ∧ w2.cell? ⟨w.heap.size, 1, none⟩ = some (.int .i64 0) ∧ w2.cell? ⟨w.heap.size, 2, none⟩ = some (.int .i64 0) ∧ w2.cell? ⟨w.heap.size, 3, none⟩ = some (.int .i64 0) ∧ w2.cell? ⟨w.heap.size, 4, none⟩ = some (.int .u64 0) ∧ w2.cell? ⟨w.heap.size, 5, none⟩ = some (.int .u64 0)) := by
  obtain ⟨wz, w2, h1, h2, k, b, c, f⟩ := newWt w w0
  exact ⟨wz, w2, h1, h2, by rw [← h1]; exact (Below.refl _ _).alloc (Nat.le_refl _) _, b, c, f, k.cells⟩
set_option maxRecDepth 100000 in
set_option maxHeartbeats 1000000 in
theorem weight_none (W : World) (i : Int) : Calls Try.prog 30 #[.pointer none, .int .i64 i] W fun e w' => e = .returned (.tuple #[zeroW, err 5]) ∧ Below W.heap.size W w' := by
  obtain ⟨wz, w2, hz, hs, bz, b2, ⟨p0, p1, p2, p3, p4, p5⟩, ⟨q0, q1, q2, q3, q4, q5⟩, x0, x1, x2, x3, x4, x5⟩ := newZw W
  have B2 := Lib.hid b2
  clear bz b2
  go_enter Try.func30, Try.ntmps30
  go_wp2_with fail
  exact bodyPost_ret (v := .tuple #[zeroW, err 5]) (by simp [zeroW, err, results, Try.results30, go_sem, x0, x1, x2, x3, x4, x5]) rfl ⟨rfl, B2.out⟩
set_option maxRecDepth 100000 in
set_option maxHeartbeats 1000000 in
theorem weight_miss {n0 B most : Nat} {W : World} {E : List En} (h : StAt n0 W B most E) {i : Int} (hi : ¬ (0 ≤ i ∧ i ≤ E.length)) : Calls Try.prog 30 #[.pointer (some ⟨B, 0, none⟩), .int .i64 i] W fun e w' => e = .returned (.tuple #[zeroW, err 1]) ∧ Below W.heap.size W w' := by
  obtain ⟨wz, w2, hz, hs, bz, b2, ⟨p0, p1, p2, p3, p4, p5⟩, ⟨q0, q1, q2, q3, q4, q5⟩, x0, x1, x2, x3, x4, x5⟩ := newZw W
  have B2 := Lib.hid b2
  have HKN := Lib.hid (known_any (h.below bz) i)
  rw [decide_eq_false hi] at HKN
  clear bz b2 h
  go_enter Try.func30, Try.ntmps30
  go_wp2_with fail
  refine HKN.out.mono ?_; rintro e w ⟨rfl, h⟩; rw [h]; clear h w
  go_wp2_with fail
  exact bodyPost_ret (v := .tuple #[zeroW, err 1]) (by simp [zeroW, err, results, Try.results30, go_sem, x0, x1, x2, x3, x4, x5]) rfl ⟨rfl, B2.out⟩
end M
end Go.Proofs.Ytjbllcakaljpgaa
