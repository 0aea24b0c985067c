/- The store: Depth, Even; avl.Balanced; Len. -/
import Derived.Test.YtplccefjljdjnaaAccAt
set_option linter.unusedVariables false
set_option linter.unusedSimpArgs false
namespace Go.Proofs.Ytplccefjljdjnaa
open Go.RowKit Go.Lib
namespace M
attribute [local go_sem] Oper.semAt_some
section
variable {n0 B most : Nat} {W : World} {E : List En}
set_option maxRecDepth 100000 in
set_option maxHeartbeats 1000000 in
theorem depth_any (h : StAt n0 W B most E) {i : Nat} (hi : i ≤ E.length) (hE : E.length ≤ 1048576) :
    Calls Try.prog 92 #[.pointer (some ⟨B, 0, none⟩), .int .i64 i] W fun e w' => e = .returned (.tuple #[.int .i64 (entAt E i).depth, .nilIface]) ∧ Below W.heap.size W w' := by
  have HKN := Lib.hid (known_any h (i : Int))
  rw [decide_eq_true (show 0 ≤ (i : Int) ∧ (i : Int) ≤ (E.length : Int) by omega)] at HKN
  have HAT := Lib.hid (at_any h hi hE)
  have hfl : ∀ (a b c d e f g h i j k l m : Value) (w : World), (Instr.field 121 (.agg #[a, b, c, d, e, f, g, h, i, j, k, l, m]) 2).run Try.prog w = .ok l w := fun _ _ _ _ _ _ _ _ _ _ _ _ _ _ => by kernel_rfl
  obtain ⟨e, he⟩ : ∃ e, entAt E i = e := ⟨_, rfl⟩
  rw [he] at HAT ⊢
  unfold enV at HAT
  clear h he
  go_enter Try.func92, Try.ntmps92
  go_wp2_with fail
  refine HKN.out.mono ?_; rintro e' w4 ⟨rfl, h⟩; rw [h]; clear h w4
  go_wp2_with fail
  refine HAT.out.mono ?_; rintro e' w2 ⟨rfl, b2⟩
  have B2 := Lib.hid b2
  clear b2
  go_wp2_with fail
  go_ret2
  exact ⟨rfl, B2.out⟩
set_option maxRecDepth 100000 in
set_option maxHeartbeats 1000000 in
theorem even_any (h : StAt n0 W B most E) {i : Nat} (hi : i ≤ E.length) (hE : E.length ≤ 1048576) :
    Calls Try.prog 93 #[.pointer (some ⟨B, 0, none⟩), .int .i64 i] W fun e w' => e = .returned (.bool (entAt E i).even) ∧ Below W.heap.size W w' := by
  have HKN := Lib.hid (known_any h (i : Int))
  rw [decide_eq_true (show 0 ≤ (i : Int) ∧ (i : Int) ≤ (E.length : Int) by omega)] at HKN
  have HAT := Lib.hid (at_any h hi hE)
  have hfl : ∀ (a b c d e f g h i j k l m : Value) (w : World), (Instr.field 121 (.agg #[a, b, c, d, e, f, g, h, i, j, k, l, m]) 3).run Try.prog w = .ok m w := fun _ _ _ _ _ _ _ _ _ _ _ _ _ _ => by kernel_rfl
  obtain ⟨e, he⟩ : ∃ e, entAt E i = e := ⟨_, rfl⟩
  rw [he] at HAT ⊢
  unfold enV at HAT
  clear h he
  go_enter Try.func93, Try.ntmps93
  go_wp2_with fail
  refine HKN.out.mono ?_; rintro e' w4 ⟨rfl, h⟩; rw [h]; clear h w4
  go_wp2_with fail
  refine HAT.out.mono ?_; rintro e' w2 ⟨rfl, b2⟩
  have B2 := Lib.hid b2
  clear b2
  go_wp2_with fail
  go_ret
  exact ⟨rfl, B2.out⟩
set_option maxRecDepth 100000 in
set_option maxHeartbeats 1000000 in
theorem balanced_any (h : StAt n0 W B most E) {i : Nat} (hi : i ≤ E.length) (hE : E.length ≤ 1048576) :
    Calls Try.prog 79 #[.pointer (some ⟨B, 0, none⟩), .int .i64 i] W fun e w' => e = .returned (.tuple #[.bool (entAt E i).even, .nilIface]) ∧ Below W.heap.size W w' := by
  have HD := Lib.hid (depth_any h hi hE)
  have HV := Lib.hid (fun w hw => even_any (h.below hw) hi hE (W := w))
  generalize (entAt E i).depth = d at *
  generalize (entAt E i).even = b at *
  clear h
  go_enter Try.func79, Try.ntmps79
  go_wp2_with fail
  refine HD.out.mono ?_; rintro e' w1 ⟨rfl, b1⟩
  have B1 := Lib.hid b1
  clear b1
  go_wp2_with fail
  refine (HV.out w1 B1.out).mono ?_; rintro e' w2 ⟨rfl, b2⟩
  have B2 := Lib.hid (Below.after B1.out b2)
  clear b2
  go_wp2_with fail
  go_ret2
  exact ⟨rfl, B2.out⟩
set_option maxRecDepth 100000 in
theorem slen_any (h : StAt n0 W B most E) :
    Calls Try.prog 34 #[.pointer (some ⟨B, 0, none⟩)] W fun e w' => e = .returned (.int .i64 E.length) ∧ w' = W := by
  obtain ⟨lv, mb, h1, h2, -, -, -⟩ := h
  obtain ⟨a, cap, rfl⟩ := h2.len
  obtain ⟨-, c1, -, -⟩ := h1.cells
  clear h1 h2
  go_enter Try.func34, Try.ntmps34
  go_wp2_with fail
  go_ret
  exact ⟨rfl, rfl⟩
end
end M
end Go.Proofs.Ytplccefjljdjnaa
