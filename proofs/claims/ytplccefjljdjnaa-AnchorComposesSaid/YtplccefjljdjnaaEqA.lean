/- Anchors and ranges compared by ==. -/
import Derived.Test.YtplccefjljdjnaaSpan
set_option linter.unusedVariables false
set_option linter.unusedSimpArgs false
namespace Go.Proofs.Ytplccefjljdjnaa
open Go.RowKit
namespace M
theorem int_eqZ {t : TypeId} {q : IntKind} (ht : Try.prog.underlying t = some (.int q)) (d : Nat) (x y : Int) (w : World) : (Op.equalIn (d + 1) t (.int q x) (.int q y)).run Try.prog w = .ok (decide (x = y)) w := by
  have h : (x == y) = decide (x = y) := by
    by_cases h : x = y
    · subst h; simp
    · rw [decide_eq_false h]; simp; omega
  simp [Op.equalIn, run_underlying (P := Try.prog) ht, h]
theorem bool_eqB {t : TypeId} (ht : Try.prog.underlying t = some .bool) (d : Nat) (x y : Bool) (w : World) : (Op.equalIn (d + 1) t (.bool x) (.bool y)).run Try.prog w = .ok (decide (x = y)) w := by
  cases x <;> cases y <;> simp [Op.equalIn, run_underlying (P := Try.prog) ht]
set_option maxHeartbeats 4000000 in
theorem an_eq (x y : Int) (p q : Bool) (w : World) : (Op.equal 33 (.agg #[.int .i64 x, .bool p]) (.agg #[.int .i64 y, .bool q])).run Try.prog w = .ok (decide (x = y ∧ p = q)) w := by
  have h : ∀ d w, (Op.equalIn (d + 2) 33 (.agg #[.int .i64 x, .bool p]) (.agg #[.int .i64 y, .bool q])).run Try.prog w = .ok (decide (x = y ∧ p = q)) w := fun d w => by
    have p0 : ∀ (x0 : Int) (x1 : Bool) (w : World), (part 3 #[.int .i64 x0, .bool x1] 0).run Try.prog w = .ok (.int .i64 x0) w := fun _ _ _ => by kernel_rfl
    have p1 : ∀ (x0 : Int) (x1 : Bool) (w : World), (part 4 #[.int .i64 x0, .bool x1] 1).run Try.prog w = .ok (.bool x1) w := fun _ _ _ => by kernel_rfl
    have i0 := int_eqZ Try.underlying3 d
    have i1 := bool_eqB Try.underlying4 d
    rw [Op.equalIn]
    by_cases k1 : x = y <;> by_cases k2 : p = q <;>
      simp [run_underlying (P := Try.prog) Try.underlying33, Sem.run_bind, p0, p1, i0, i1, k1, k2]
  simp [Op.equal, Op.maxDepth, h 9998]
set_option maxHeartbeats 4000000 in
theorem sn_eq (x y p q : Int) (w : World) : (Op.equal 57 (.agg #[.int .i64 x, .int .i64 p]) (.agg #[.int .i64 y, .int .i64 q])).run Try.prog w = .ok (decide (x = y ∧ p = q)) w := by
  have h : ∀ d w, (Op.equalIn (d + 2) 57 (.agg #[.int .i64 x, .int .i64 p]) (.agg #[.int .i64 y, .int .i64 q])).run Try.prog w = .ok (decide (x = y ∧ p = q)) w := fun d w => by
    have p0 : ∀ (x0 : Int) (x1 : Int) (w : World), (part 3 #[.int .i64 x0, .int .i64 x1] 0).run Try.prog w = .ok (.int .i64 x0) w := fun _ _ _ => by kernel_rfl
    have p1 : ∀ (x0 : Int) (x1 : Int) (w : World), (part 3 #[.int .i64 x0, .int .i64 x1] 1).run Try.prog w = .ok (.int .i64 x1) w := fun _ _ _ => by kernel_rfl
    have i0 := int_eqZ Try.underlying3 d
    rw [Op.equalIn]
    by_cases k1 : x = y <;> by_cases k2 : p = q <;>
      simp [run_underlying (P := Try.prog) Try.underlying57, Sem.run_bind, p0, p1, i0, k1, k2]
  simp [Op.equal, Op.maxDepth, h 9998]
end M
end Go.Proofs.Ytplccefjljdjnaa
