/- Unit and Join of the plain monoids. -/
import Derived.Test.YtpgnhnimndagpaaCatch
import Derived.Outline
namespace Go.Proofs.Ytpgnhnimndagpaa
open Go.RowKit
theorem ret_int {k : IntKind} {a b : Int} (h : a = b) : Ending.returned (.int k a) = .returned (.int k b) := by rw [h]
def addI (a b : Int) : Int := wrap64 (a + b)
def maxI (a b : Int) : Int := max a b
def joinF (f g : Int × Int) : Int × Int := (IntKind.u64.wrap (f.1 * g.1), IntKind.u64.wrap (IntKind.u64.wrap (f.2 * g.1) + g.2))
theorem add_join (a b : Int) (W : World) : Calls Try.prog 77 #[.agg #[], .int .i64 a, .int .i64 b] W fun e w' => e = .returned (.int .i64 (addI a b)) ∧ Below W.heap.size W w' := by
  go_enter Try.func77, Try.ntmps77
  go_wp2_with fail
  go_ret
  exact ⟨ret_int rfl, (Below.refl _ _).alloc (Nat.le_refl _) _⟩
theorem add_unit (W : World) : Calls Try.prog 78 #[.agg #[]] W fun e w' => e = .returned (.int .i64 0) ∧ Below W.heap.size W w' := by
  go_enter Try.func78, Try.ntmps78
  go_wp2_with fail
  go_ret
  exact ⟨rfl, (Below.refl _ _).alloc (Nat.le_refl _) _⟩
theorem max_join (a b : Int) (W : World) : Calls Try.prog 79 #[.agg #[], .int .i64 a, .int .i64 b] W fun e w' => e = .returned (.int .i64 (maxI a b)) ∧ Below W.heap.size W w' := by
  by_cases h : b < a
  · go_enter Try.func79, Try.ntmps79
    go_wp2_with fail
    go_ret
    exact ⟨ret_int (by unfold maxI; omega), (Below.refl _ _).alloc (Nat.le_refl _) _⟩
  · by_cases h2 : a < b
    all_goals
      go_enter Try.func79, Try.ntmps79
      go_wp2_with fail
      all_goals
        go_ret
        exact ⟨ret_int (by unfold maxI; omega), (Below.refl _ _).alloc (Nat.le_refl _) _⟩
theorem max_unit (W : World) : Calls Try.prog 80 #[.agg #[]] W fun e w' => e = .returned (.int .i64 (-9223372036854775808)) ∧ Below W.heap.size W w' := by
  go_enter Try.func80, Try.ntmps80
  go_wp2_with fail
  go_ret
  exact ⟨rfl, (Below.refl _ _).alloc (Nat.le_refl _) _⟩
theorem aff_join (f g : Int × Int) (W : World) : Calls Try.prog 14 #[.agg #[], .agg #[.int .u64 f.1, .int .u64 f.2], .agg #[.int .u64 g.1, .int .u64 g.2]] W fun e w' => e = .returned (.agg #[.int .u64 (joinF f g).1, .int .u64 (joinF f g).2]) ∧ Below W.heap.size W w' := by
  obtain ⟨f1, f2⟩ := f
  obtain ⟨g1, g2⟩ := g
  go_enter Try.func14, Try.ntmps14
  go_wp2_with fail
  refine bodyPost_ret (v := .agg #[.int .u64 (joinF (f1, f2) (g1, g2)).1, .int .u64 (joinF (f1, f2) (g1, g2)).2]) (by simp [results, Try.results14, go_sem, joinF]) rfl ⟨rfl, ?_⟩
  exact ((((Below.refl _ _).alloc (Nat.le_refl _) _).alloc (by simp) _).alloc (by simp; omega) _).alloc (by simp; omega) _
theorem aff_unit (W : World) : Calls Try.prog 25 #[.agg #[]] W fun e w' => e = .returned (.agg #[.int .u64 1, .int .u64 0]) ∧ Below W.heap.size W w' := by
  go_enter Try.func25, Try.ntmps25
  go_wp2_with fail
  refine bodyPost_ret (v := .agg #[.int .u64 1, .int .u64 0]) (by simp [results, Try.results25, go_sem]) rfl ⟨rfl, ?_⟩
  exact ((Below.refl _ _).alloc (Nat.le_refl _) _).alloc (by simp) _
end Go.Proofs.Ytpgnhnimndagpaa
