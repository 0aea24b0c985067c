/- Two rules compared by ==. -/
import Derived.Test.YtjbllcakaljpgaaRefSt0
namespace Go.Proofs.Ytjbllcakaljpgaa
open Go.RowKit
namespace M
theorem int_eqI {t : TypeId} {q : IntKind} (ht : Try.prog.underlying t = some (.int q)) (d : Nat) (x y : Nat) (w : World) : (Op.equalIn (d + 1) t (.int q x) (.int q y)).run Try.prog w = .ok (decide (x = y)) w := by
  have h : ((x : Int) == (y : Int)) = decide (x = y) := by
    by_cases h : x = y
    · subst h; simp
    · rw [decide_eq_false h]; simp; omega
  simp [Op.equalIn, run_underlying (P := Try.prog) ht, h]
set_option maxHeartbeats 4000000 in
theorem ru_eq (a b : Ru) (w : World) : (Op.equal 115 (ruV a) (ruV b)).run Try.prog w = .ok (decide (a = b)) w := by
  have h : ∀ d w, (Op.equalIn (d + 2) 115 (ruV a) (ruV b)).run Try.prog w = .ok (decide (a = b)) w := fun d w => by
    have p0 : ∀ (x0 x1 x2 x3 x4 : Int) (w : World), (part 3 #[.int .i64 x0, .int .u8 x1, .int .i64 x2, .int .i64 x3, .int .i64 x4] 0).run Try.prog w = .ok (.int .i64 x0) w := fun _ _ _ _ _ _ => by kernel_rfl
    have p1 : ∀ (x0 x1 x2 x3 x4 : Int) (w : World), (part 5 #[.int .i64 x0, .int .u8 x1, .int .i64 x2, .int .i64 x3, .int .i64 x4] 1).run Try.prog w = .ok (.int .u8 x1) w := fun _ _ _ _ _ _ => by kernel_rfl
    have p2 : ∀ (x0 x1 x2 x3 x4 : Int) (w : World), (part 26 #[.int .i64 x0, .int .u8 x1, .int .i64 x2, .int .i64 x3, .int .i64 x4] 2).run Try.prog w = .ok (.int .i64 x2) w := fun _ _ _ _ _ _ => by kernel_rfl
    have p3 : ∀ (x0 x1 x2 x3 x4 : Int) (w : World), (part 26 #[.int .i64 x0, .int .u8 x1, .int .i64 x2, .int .i64 x3, .int .i64 x4] 3).run Try.prog w = .ok (.int .i64 x3) w := fun _ _ _ _ _ _ => by kernel_rfl
    have p4 : ∀ (x0 x1 x2 x3 x4 : Int) (w : World), (part 3 #[.int .i64 x0, .int .u8 x1, .int .i64 x2, .int .i64 x3, .int .i64 x4] 4).run Try.prog w = .ok (.int .i64 x4) w := fun _ _ _ _ _ _ => by kernel_rfl
    have i0 := int_eqI Try.underlying3 d
    have i1 := int_eqI Try.underlying5 d
    have i2 := int_eqI Try.underlying26 d
    have hd : decide (a = b) = (decide (a.kind = b.kind) && (decide (a.letter = b.letter) && (decide (a.left = b.left) && (decide (a.right = b.right) && decide (a.times = b.times))))) := by
      obtain ⟨a1, a2, a3, a4, a5⟩ := a
      obtain ⟨b1, b2, b3, b4, b5⟩ := b
      simp [Bool.decide_and]
    rw [hd]
    rw [Op.equalIn]
    by_cases k1 : a.kind = b.kind <;> by_cases k2 : a.letter = b.letter <;> by_cases k3 : a.left = b.left <;> by_cases k4 : a.right = b.right <;> by_cases k5 : a.times = b.times <;>
      simp [run_underlying (P := Try.prog) Try.underlying115, Sem.run_bind, p0, p1, p2, p3, p4, i0, i1, i2, k1, k2, k3, k4, k5]
  simp [Op.equal, Op.maxDepth, h 9998]
end M
end Go.Proofs.Ytjbllcakaljpgaa
