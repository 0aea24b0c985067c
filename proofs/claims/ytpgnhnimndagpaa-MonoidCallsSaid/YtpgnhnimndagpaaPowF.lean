/- Power of affine functions. -/
import Derived.Test.YtpgnhnimndagpaaJoins
import Derived.Test.YtpgnhnimndagpaaPair
import Derived.Test.YtpgnhnimndagpaaPows
import Derived.Outline
namespace Go.Proofs.Ytpgnhnimndagpaa
open Go.RowKit
namespace F

def u : Int × Int := (1, 0)
/-- The two boxes. -/
def PF (W w : World) (x r : Int × Int) : Prop :=
  w.heap[W.heap.size + 1]? = some (.cells #[.int .u64 x.1, .int .u64 x.2] 25 (0, 0)) ∧ w.heap[W.heap.size + 1 + 1]? = some (.cells #[.int .u64 r.1, .int .u64 r.2] 25 (0, 0)) ∧ Below W.heap.size W w
theorem PF.below {W A C : World} {x r : Int × Int} (h : PF W A x r) (hb : Below A.heap.size A C) : PF W C x r := ⟨box_below hb h.1, box_below hb h.2.1, Below.step h.2.2 hb⟩
theorem PF.setX {W A : World} {x r : Int × Int} (h : PF W A x r) (y : Int × Int) : PF W ((A.setCell ⟨W.heap.size + 1, 0, none⟩ (.int .u64 y.1)).setCell ⟨W.heap.size + 1, 1, none⟩ (.int .u64 y.2)) y r :=
  ⟨box2_set _ _ h.1, box2_other _ _ h.2.1 (by omega), below2 _ _ h.2.2 (by omega)⟩
theorem PF.setR {W A : World} {x r : Int × Int} (h : PF W A x r) (y : Int × Int) : PF W ((A.setCell ⟨W.heap.size + 1 + 1, 0, none⟩ (.int .u64 y.1)).setCell ⟨W.heap.size + 1 + 1, 1, none⟩ (.int .u64 y.2)) x y :=
  ⟨box2_other _ _ h.1 (by omega), box2_set _ _ h.2.1, below2 _ _ h.2.2 (by omega)⟩
theorem PF.cells {W A : World} {x r : Int × Int} (h : PF W A x r) : (A.cell? ⟨W.heap.size + 1, 0, none⟩ = some (.int .u64 x.1) ∧ A.cell? ⟨W.heap.size + 1, 1, none⟩ = some (.int .u64 x.2) ∧ A.frozen? ⟨W.heap.size + 1, 0, none⟩ = false ∧ A.frozen? ⟨W.heap.size + 1, 1, none⟩ = false) ∧ (A.cell? ⟨W.heap.size + 1 + 1, 0, none⟩ = some (.int .u64 r.1) ∧ A.cell? ⟨W.heap.size + 1 + 1, 1, none⟩ = some (.int .u64 r.2) ∧ A.frozen? ⟨W.heap.size + 1 + 1, 0, none⟩ = false ∧ A.frozen? ⟨W.heap.size + 1 + 1, 1, none⟩ = false) :=
  ⟨box2_cell h.1, box2_cell h.2.1⟩

set_option maxRecDepth 100000 in
set_option maxHeartbeats 4000000 in
theorem pow_any (W : World) (x : Int × Int) (k : Int) (hk : k ≤ 9223372036854775807) (ha : ∀ x y z, joinF (joinF x y) z = joinF x (joinF y z)) :
    Calls Try.prog 12 #[.agg #[], .agg #[.int .u64 x.1, .int .u64 x.2], .int .i64 k] W fun e w' => e = .returned (.agg #[.int .u64 (pw joinF u x k.toNat).1, .int .u64 (pw joinF u x k.toNat).2]) ∧ Below W.heap.size W w' := by
  have hmf : ∀ (fn : Fn) (first cap : Array Value) (w : World), (Instr.makeFunc fn first cap).run Try.prog w = .ok (.func fn first cap) w := fun _ _ _ _ => rfl
  have hmU : ∀ w : World, (method 206 29 (.agg #[]) "Unit").run Try.prog w = .ok (25, .agg #[]) w := fun _ => by kernel_rfl
  have hmJ : ∀ w : World, (method 206 29 (.agg #[]) "Join").run Try.prog w = .ok (14, .agg #[]) w := fun _ => by kernel_rfl
  have HA := Lib.hid ha; clear ha
  obtain ⟨W0, hW0⟩ : ∃ W0, ((W.alloc (.cells #[] 29)).alloc (.cells #[.int .u64 x.1, .int .u64 x.2] 25)).alloc (.cells #[.int .u64 0, .int .u64 0] 25) = W0 := ⟨_, rfl⟩
  have HP0 : Hid (PF W W0 x (0, 0)) := Lib.hid (by
    rw [← hW0]
    refine ⟨(Below.heap_alloc _ _ _ (by simp)).trans (heap_new1 _ _ _), ?_, (((Below.refl _ W).alloc (Nat.le_refl _) _).alloc (by simp) _).alloc (by simp; omega) _⟩
    have := heap_new1 (W.alloc (.cells #[] 29)) (.cells #[.int .u64 x.1, .int .u64 x.2] 25) (.cells #[.int .u64 0, .int .u64 0] 25)
    rwa [World.size_alloc] at this)
  by_cases hk1 : k < 1
  · obtain ⟨-, r0, r1, s0, s1⟩ := HP0.out.cells
    go_enter_defers Try.func12, Try.ntmps12
    go_wp2_with fail
    refine (aff_unit _).mono ?_; rintro e w1 ⟨rfl, b1⟩
    have HP1 := Lib.hid (HP0.out.below b1)
    obtain ⟨-, r0, r1, s0, s1⟩ := HP1.out.cells
    have HP2 := Lib.hid (HP1.out.setR (1, 0))
    clear b1
    go_wp2_with fail
    refine leaves_cons (f := 40) (args := #[.pointer (some ⟨W.heap.size + 1 + 1, 0, none⟩)]) (by simp) (by simp [go_sem]) ?_
    refine (catch40 ⟨W.heap.size + 1 + 1, 0, none⟩ _).mono ?_
    rintro e u' w'' ⟨rfl, rfl, rfl⟩
    have hz : k.toNat = 0 := by omega
    obtain ⟨-, t0, t1, -, -⟩ := HP2.out.cells
    have hB := HP2.out.2.2
    rw [hz]
    simp only [Leaves, settle, results, Try.results12]
    simp [go_sem, t0, t1]
    exact ⟨⟨rfl, rfl⟩, hB⟩
  · obtain ⟨K, rfl⟩ : ∃ K : Nat, k = (K : Int) := ⟨k.toNat, by omega⟩
    have hK : 1 ≤ K := by omega
    rw [Int.toNat_natCast]
    go_enter_defers Try.func12, Try.ntmps12
    go_wp2_with fail
    clear hW0 hk1
    go_loopw [2] (fun c wr => ∃ q e : Nat, 1 ≤ q ∧ 1 ≤ e ∧ q * e = K ∧ c = .int .i64 q ∧ PF W wr (pw joinF u x e) (0, 0)) (fun c _ => (intOf c).toNat)
    case atStart => exact ⟨K, 1, by omega, by omega, by omega, rfl, HP0.out⟩
    case round =>
      obtain ⟨q, e, hq, he, hqe, rfl, hP⟩ := hrel
      have HP := Lib.hid hP; clear hP HP0
      obtain ⟨⟨x0, x1, y0, y1⟩, r0, r1, s0, s1⟩ := HP.out.cells
      have hqK : q ≤ K := by rw [← hqe]; exact Nat.le_mul_of_pos_right _ (by omega)
      have HQ := Lib.hid hqe; clear hqe
      by_cases hev : q % 2 = 0
      · have hev' : (q : Int) % 2 = 0 := by omega
        obtain ⟨p, hp⟩ : ∃ p, q = 2 * p := ⟨q / 2, by omega⟩
        have HD := Lib.hid (pw_add (u := u) HA.out x (a := e) (b := e) (by omega) (by omega))
        clear r0 r1 s0 s1
        go_wp2_with fail
        refine (aff_join _ _ _).mono ?_; rintro e' w1 ⟨rfl, b1⟩
        rw [← HD.out]
        have HP1 := Lib.hid (HP.out.below b1)
        clear b1 x0 x1 y0 y1
        obtain ⟨⟨x0, x1, y0, y1⟩, -⟩ := HP1.out.cells
        have HP2 := Lib.hid (HP1.out.setX (pw joinF u x (e + e)))
        have hq2 : q / 2 * (e + e) = K := by rw [← HQ.out, hp, Nat.mul_div_cancel_left _ (by omega), ← Nat.two_mul, ← Nat.mul_assoc, Nat.mul_comm p 2]
        have HQ2 := Lib.hid hq2; clear hq2
        go_wp2_with fail
        go_roundw
        case rel => exact ⟨q / 2, e + e, by omega, by omega, HQ2.out, by go_num, HP2.out⟩
        case measure => simp [intOf]; omega
      · have hev' : ¬ (q : Int) % 2 = 0 := by omega
        have HP1 := Lib.hid (HP.out.setR (pw joinF u x e))
        clear x1
        obtain ⟨⟨x0, x1, -⟩, -⟩ := HP.out.cells
        have hs : e + 2 * e * (q / 2) = K := by
          have h1 : q = 2 * (q / 2) + 1 := by omega
          have h2 : q * e = 2 * (q / 2) * e + e := by conv => lhs; rw [h1, Nat.add_mul, Nat.one_mul]
          rw [← HQ.out, h2, Nat.mul_right_comm, Nat.add_comm]
        have HS := Lib.hid hs; clear hs
        go_wp2_with fail
        clear HQ HP x0 x1 y0 y1 r0 r1 s0 s1
        go_loopw [2] (fun c wr => ∃ q e r : Nat, 1 ≤ r ∧ 1 ≤ e ∧ q ≤ K ∧ r + 2 * e * q = K ∧ c = .int .i64 q ∧ PF W wr (pw joinF u x e) (pw joinF u x r)) (fun c _ => (intOf c).toNat)
        case atStart => exact ⟨q / 2, e, e, he, he, by omega, HS.out, by go_num, HP1.out⟩
        case round =>
          clear HP1 HS
          obtain ⟨q, e, r, hr, he, hqK, hqe, rfl, hP⟩ := hrel
          have HP := Lib.hid hP; have HQ := Lib.hid hqe; clear hP hqe
          obtain ⟨⟨x0, x1, y0, y1⟩, r0, r1, s0, s1⟩ := HP.out.cells
          by_cases hq0 : 0 < q
          · have hq0' : (0 : Int) < (q : Int) := by omega
            have HD := Lib.hid (pw_add (u := u) HA.out x (a := e) (b := e) (by omega) (by omega))
            have HD2 := Lib.hid (pw_add (u := u) HA.out x (a := r) (b := e + e) (by omega) (by omega))
            by_cases hev : q % 2 = 1
            · have hev' : (q : Int) % 2 = 1 := by omega
              go_wp2_with fail
              refine (aff_join _ _ _).mono ?_; rintro e' w1 ⟨rfl, b1⟩
              rw [← HD.out]
              have HP1 := Lib.hid (HP.out.below b1)
              clear b1 x0 x1 y0 y1 r0 r1 s0 s1
              have HP2 := Lib.hid (HP1.out.setX (pw joinF u x (e + e)))
              obtain ⟨⟨x0, x1, y0, y1⟩, -⟩ := HP1.out.cells
              obtain ⟨W2, hW2⟩ : ∃ W2, (w1.setCell ⟨W.heap.size + 1, 0, none⟩ (.int .u64 (pw joinF u x (e + e)).1)).setCell ⟨W.heap.size + 1, 1, none⟩ (.int .u64 (pw joinF u x (e + e)).2) = W2 := ⟨_, rfl⟩
              rw [hW2] at HP2
              obtain ⟨⟨z0, z1, -, -⟩, r0, r1, s0, s1⟩ := HP2.out.cells
              go_wp2_with fail
              refine (aff_join _ _ _).mono ?_; rintro e' w3 ⟨rfl, b3⟩
              rw [← HD2.out]
              have HP3 := Lib.hid (HP2.out.below b3)
              clear b3 x0 x1 y0 y1 r0 r1 s0 s1 z0 z1 hW2
              obtain ⟨-, r0, r1, s0, s1⟩ := HP3.out.cells
              have HP4 := Lib.hid (HP3.out.setR (pw joinF u x (r + (e + e))))
              have hs : r + (e + e) + 2 * (e + e) * (q / 2) = K := by
                have h1 : q = 2 * (q / 2) + 1 := by omega
                rw [← HQ.out]
                conv => rhs; rw [h1, Nat.mul_add, Nat.mul_one]
                have : 2 * (e + e) * (q / 2) = 2 * e * (2 * (q / 2)) := by rw [← Nat.two_mul e, ← Nat.mul_assoc, ← Nat.mul_assoc, Nat.mul_right_comm 2 e 2]
                omega
              have HS := Lib.hid hs; clear hs
              go_wp2_with fail
              go_roundw
              case rel => exact ⟨q / 2, e + e, r + (e + e), by omega, by omega, by omega, HS.out, by go_num, HP4.out⟩
              case measure => simp [intOf]; omega
            · have hev' : ¬ (q : Int) % 2 = 1 := by omega
              go_wp2_with fail
              refine (aff_join _ _ _).mono ?_; rintro e' w1 ⟨rfl, b1⟩
              rw [← HD.out]
              have HP1 := Lib.hid (HP.out.below b1)
              clear b1 x0 x1 y0 y1 r0 r1 s0 s1
              have HP2 := Lib.hid (HP1.out.setX (pw joinF u x (e + e)))
              obtain ⟨⟨x0, x1, y0, y1⟩, -⟩ := HP1.out.cells
              have hs : r + 2 * (e + e) * (q / 2) = K := by
                have h1 : q = 2 * (q / 2) := by omega
                rw [← HQ.out]
                conv => rhs; rw [h1]
                have : 2 * (e + e) * (q / 2) = 2 * e * (2 * (q / 2)) := by rw [← Nat.two_mul e, ← Nat.mul_assoc, ← Nat.mul_assoc, Nat.mul_right_comm 2 e 2]
                omega
              have HS := Lib.hid hs; clear hs
              go_wp2_with fail
              go_roundw
              case rel => exact ⟨q / 2, e + e, r, by omega, by omega, by omega, HS.out, by go_num, HP2.out⟩
              case measure => simp [intOf]; omega
          · obtain rfl : q = 0 := by omega
            have hrK : r = K := by have := HQ.out; simpa using this
            subst hrK
            have HP2 := Lib.hid (HP.out.setR (pw joinF u x r))
            go_wp2_with fail
            refine leaves_cons (f := 40) (args := #[.pointer (some ⟨W.heap.size + 1 + 1, 0, none⟩)]) (by simp) (by simp [go_sem]) ?_
            refine (catch40 ⟨W.heap.size + 1 + 1, 0, none⟩ _).mono ?_
            rintro e' u' w'' ⟨rfl, rfl, rfl⟩
            obtain ⟨-, t0, t1, -, -⟩ := HP2.out.cells
            have hB := HP2.out.2.2
            simp only [Leaves, settle, results, Try.results12]
            simp [go_sem, t0, t1]
            exact hB
end F
end Go.Proofs.Ytpgnhnimndagpaa
