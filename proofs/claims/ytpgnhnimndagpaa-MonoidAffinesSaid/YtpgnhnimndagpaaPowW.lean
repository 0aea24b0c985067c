/- Power of strings. -/
import Derived.Test.YtpgnhnimndagpaaJoins
import Derived.Test.YtpgnhnimndagpaaArr
import Derived.Test.YtpgnhnimndagpaaPows
import Derived.Outline
namespace Go.Proofs.Ytpgnhnimndagpaa
open Go.RowKit
namespace W

def u : ByteArray := ⟨#[]⟩
def jn (a b : ByteArray) : ByteArray := a ++ b
theorem jn_assoc (x y z : ByteArray) : jn (jn x y) z = jn x (jn y z) := ByteArray.append_assoc
theorem words_join' (s t : ByteArray) (h : s.size + t.size ≤ 9223372036854775807) (W : World) : Calls Try.prog 75 #[.agg #[], .string s, .string t] W fun e w' => e = .returned (.string (jn s t)) ∧ Below W.heap.size W w' := words_join s t h W
theorem pw_size (x : ByteArray) (k : Nat) : (pw jn u x k).size = k * x.size := by
  induction k with
  | zero => rw [Nat.zero_mul]; rfl
  | succ k ih =>
    rcases Nat.eq_zero_or_pos k with rfl | h
    · rw [Nat.zero_add, Nat.one_mul]; rfl
    · rw [pw_add jn_assoc x h (by omega), pw_one]
      show (pw jn u x k ++ x).size = _
      rw [ByteArray.size_append, ih, Nat.add_mul, Nat.one_mul]
/-- The box. -/
def PF (W w : World) (r : ByteArray) : Prop := w.heap[W.heap.size + 1]? = some (.cells #[.string r] 9 (0, 0)) ∧ Below W.heap.size W w
theorem PF.below {W A C : World} {r : ByteArray} (h : PF W A r) (hb : Below A.heap.size A C) : PF W C r := ⟨box_below hb h.1, Below.step h.2 hb⟩
theorem PF.setR {W A : World} {r : ByteArray} (h : PF W A r) (y : ByteArray) : PF W (A.setCell ⟨W.heap.size + 1, 0, none⟩ (.string y)) y :=
  ⟨box_set _ h.1, h.2.setCell (p := ⟨W.heap.size + 1, 0, none⟩) (by simp) _⟩
theorem mul_le' {a b K s : Nat} (h : a + b ≤ K) (hs : K * s ≤ 1000000) : a * s + b * s ≤ 9223372036854775807 := by
  rw [← Nat.add_mul]
  have := Nat.mul_le_mul_right s h
  omega

set_option maxRecDepth 100000 in
set_option maxHeartbeats 4000000 in
theorem pow_any (W : World) (x : ByteArray) (k : Int) (hk : k ≤ 9223372036854775807) (hs : k.toNat * x.size ≤ 1000000) :
    Calls Try.prog 13 #[.agg #[], .string x, .int .i64 k] W fun e w' => e = .returned (.string (pw jn u x k.toNat)) ∧ Below W.heap.size W w' := by
  have hmf : ∀ (fn : Fn) (first cap : Array Value) (w : World), (Instr.makeFunc fn first cap).run Try.prog w = .ok (.func fn first cap) w := fun _ _ _ _ => rfl
  have hmU : ∀ w : World, (method 206 32 (.agg #[]) "Unit").run Try.prog w = .ok (76, .agg #[]) w := fun _ => by kernel_rfl
  have hmJ : ∀ w : World, (method 206 32 (.agg #[]) "Join").run Try.prog w = .ok (75, .agg #[]) w := fun _ => by kernel_rfl
  obtain ⟨W0, hW0⟩ : ∃ W0, (W.alloc (.cells #[] 32)).alloc (.cells #[.string ⟨#[]⟩] 9) = W0 := ⟨_, rfl⟩
  have HP0 : Hid (PF W W0 u) := Lib.hid (by
    rw [← hW0]
    exact ⟨heap_new1 _ _ _, ((Below.refl _ W).alloc (Nat.le_refl _) _).alloc (by simp) _⟩)
  by_cases hk1 : k < 1
  · have c0 := box_cell HP0.out.1; have f0 := box_frozen HP0.out.1
    clear hs
    go_enter_defers Try.func13, Try.ntmps13
    go_wp2_with fail
    refine (words_unit _).mono ?_; rintro e w1 ⟨rfl, b1⟩
    have HP1 := Lib.hid (HP0.out.below b1)
    have c1 := box_cell HP1.out.1; have f1 := box_frozen HP1.out.1
    have HP2 := Lib.hid (HP1.out.setR u)
    clear b1 c0 f0
    go_wp2_with fail
    refine leaves_cons (f := 41) (args := #[.pointer (some ⟨W.heap.size + 1, 0, none⟩)]) (by simp) (by simp [go_sem]) ?_
    refine (catch41 ⟨W.heap.size + 1, 0, none⟩ _).mono ?_
    rintro e u' w'' ⟨rfl, rfl, rfl⟩
    have hz : k.toNat = 0 := by omega
    have c2 : World.cell? (w1.setCell ⟨W.heap.size + 1, 0, none⟩ (.string ⟨#[]⟩)) ⟨W.heap.size + 1, 0, none⟩ = some (.string ⟨#[]⟩) := box_cell HP2.out.1
    have hB : Below W.heap.size W (w1.setCell ⟨W.heap.size + 1, 0, none⟩ (.string ⟨#[]⟩)) := HP2.out.2
    rw [hz]
    simp only [Leaves, settle, results, Try.results13]
    simp [go_sem, c2]
    exact ⟨rfl, hB⟩
  · obtain ⟨K, rfl⟩ : ∃ K : Nat, k = (K : Int) := ⟨k.toNat, by omega⟩
    have hK : 1 ≤ K := by omega
    rw [Int.toNat_natCast] at hs ⊢
    have HZ := Lib.hid hs; clear hs
    go_enter_defers Try.func13, Try.ntmps13
    go_wp2_with fail
    clear hW0 hk1
    go_loopw [1, 2] (fun y c wr => ∃ q e : Nat, 1 ≤ q ∧ 1 ≤ e ∧ q * e = K ∧ y = .string (pw jn u x e) ∧ c = .int .i64 q ∧ PF W wr u) (fun _ c _ => (intOf c).toNat)
    case atStart => exact ⟨K, 1, by omega, by omega, by omega, rfl, rfl, HP0.out⟩
    case round =>
      obtain ⟨q, e, hq, he, hqe, rfl, rfl, hP⟩ := hrel
      have HP := Lib.hid hP; clear hP HP0
      have hqK : q ≤ K := by rw [← hqe]; exact Nat.le_mul_of_pos_right _ (by omega)
      by_cases hev : q % 2 = 0
      · have hev' : (q : Int) % 2 = 0 := by omega
        obtain ⟨p, hp⟩ : ∃ p, q = 2 * p := ⟨q / 2, by omega⟩
        have hee : e + e ≤ K := by rw [← hqe, ← Nat.two_mul]; exact Nat.mul_le_mul_right e (by omega)
        have HD := Lib.hid (pw_add (u := u) jn_assoc x (a := e) (b := e) (by omega) (by omega))
        have hq2 : q / 2 * (e + e) = K := by rw [← hqe, hp, Nat.mul_div_cancel_left _ (by omega), ← Nat.two_mul, ← Nat.mul_assoc, Nat.mul_comm p 2]
        have HQ2 := Lib.hid hq2; have HEE := Lib.hid hee; clear hq2 hee hqe hp
        go_wp2_with fail
        refine (words_join' _ _ (by rw [pw_size]; exact mul_le' HEE.out HZ.out) _).mono ?_; rintro e' w1 ⟨rfl, b1⟩
        rw [← HD.out]
        have HP1 := Lib.hid (HP.out.below b1)
        clear b1
        go_wp2_with fail
        go_roundw
        case rel => exact ⟨q / 2, e + e, by omega, by omega, HQ2.out, rfl, by go_num, HP1.out⟩
        case measure => simp [intOf]; omega
      · have hev' : ¬ (q : Int) % 2 = 0 := by omega
        have c1 := box_cell HP.out.1; have f1 := box_frozen HP.out.1
        have HP1 := Lib.hid (HP.out.setR (pw jn u x e))
        have hs : e + 2 * e * (q / 2) = K := by
          have h1 : q = 2 * (q / 2) + 1 := by omega
          have h2 : q * e = 2 * (q / 2) * e + e := by conv => lhs; rw [h1, Nat.add_mul, Nat.one_mul]
          rw [← hqe, h2, Nat.mul_right_comm, Nat.add_comm]
        have HS := Lib.hid hs; clear hs hqe
        have hevb : ((q : Int) % 2 == 0) = false := by simpa using hev'
        go_wp2_with fail
        clear HP c1 f1 hev' hevb hev
        go_loopw [1, 2] (fun y c wr => ∃ q e r : Nat, 1 ≤ r ∧ 1 ≤ e ∧ q ≤ K ∧ r + 2 * e * q = K ∧ y = .string (pw jn u x e) ∧ c = .int .i64 q ∧ PF W wr (pw jn u x r)) (fun _ c _ => (intOf c).toNat)
        case atStart => exact ⟨q / 2, e, e, he, he, by omega, HS.out, rfl, by go_num, HP1.out⟩
        case round =>
          clear HP1 HS
          obtain ⟨q, e, r, hr, he, hqK, hqe, rfl, rfl, hP⟩ := hrel
          have HP := Lib.hid hP; have HQ := Lib.hid hqe; clear hP hqe
          by_cases hq0 : 0 < q
          · have hq0' : (0 : Int) < (q : Int) := by omega
            have HD := Lib.hid (pw_add (u := u) jn_assoc x (a := e) (b := e) (by omega) (by omega))
            have HD2 := Lib.hid (pw_add (u := u) jn_assoc x (a := r) (b := e + e) (by omega) (by omega))
            have hre : r + (e + e) ≤ K := by
              rw [← HQ.out]
              have := Nat.le_mul_of_pos_right (2 * e) hq0
              omega
            have HRE := Lib.hid hre; clear hre
            by_cases hev : q % 2 = 1
            · have hev' : (q : Int) % 2 = 1 := by omega
              go_wp2_with fail
              refine (words_join' _ _ (by rw [pw_size]; exact mul_le' (by have := HRE.out; omega) HZ.out) _).mono ?_; rintro e' w1 ⟨rfl, b1⟩
              rw [← HD.out]
              have HP1 := Lib.hid (HP.out.below b1)
              have c1 := box_cell HP1.out.1
              clear b1
              go_wp2_with fail
              refine (words_join' _ _ (by rw [pw_size, pw_size]; exact mul_le' HRE.out HZ.out) _).mono ?_; rintro e' w3 ⟨rfl, b3⟩
              rw [← HD2.out]
              have HP3 := Lib.hid (HP1.out.below b3)
              clear b3 c1
              have c3 := box_cell HP3.out.1; have f3 := box_frozen HP3.out.1
              have HP4 := Lib.hid (HP3.out.setR (pw jn u x (r + (e + e))))
              have hs : r + (e + e) + 2 * (e + e) * (q / 2) = K := by
                have h1 : q = 2 * (q / 2) + 1 := by omega
                rw [← HQ.out]
                conv => rhs; rw [h1, Nat.mul_add, Nat.mul_one]
                have : 2 * (e + e) * (q / 2) = 2 * e * (2 * (q / 2)) := by rw [← Nat.two_mul e, ← Nat.mul_assoc, ← Nat.mul_assoc, Nat.mul_right_comm 2 e 2]
                omega
              have HS := Lib.hid hs; clear hs
              go_wp2_with fail
              go_roundw
              case rel => exact ⟨q / 2, e + e, r + (e + e), by omega, by omega, by omega, HS.out, rfl, by go_num, HP4.out⟩
              case measure => simp [intOf]; omega
            · have hev' : ¬ (q : Int) % 2 = 1 := by omega
              go_wp2_with fail
              refine (words_join' _ _ (by rw [pw_size]; exact mul_le' (by have := HRE.out; omega) HZ.out) _).mono ?_; rintro e' w1 ⟨rfl, b1⟩
              rw [← HD.out]
              have HP1 := Lib.hid (HP.out.below b1)
              clear b1
              have hs : r + 2 * (e + e) * (q / 2) = K := by
                have h1 : q = 2 * (q / 2) := by omega
                rw [← HQ.out]
                conv => rhs; rw [h1]
                have : 2 * (e + e) * (q / 2) = 2 * e * (2 * (q / 2)) := by rw [← Nat.two_mul e, ← Nat.mul_assoc, ← Nat.mul_assoc, Nat.mul_right_comm 2 e 2]
                omega
              have HS := Lib.hid hs; clear hs
              go_wp2_with fail
              go_roundw
              case rel => exact ⟨q / 2, e + e, r, by omega, by omega, by omega, HS.out, rfl, by go_num, HP1.out⟩
              case measure => simp [intOf]; omega
          · obtain rfl : q = 0 := by omega
            have hrK : r = K := by have := HQ.out; simpa using this
            subst hrK
            have c1 := box_cell HP.out.1; have f1 := box_frozen HP.out.1
            have HP2 := Lib.hid (HP.out.setR (pw jn u x r))
            go_wp2_with fail
            refine leaves_cons (f := 41) (args := #[.pointer (some ⟨W.heap.size + 1, 0, none⟩)]) (by simp) (by simp [go_sem]) ?_
            refine (catch41 ⟨W.heap.size + 1, 0, none⟩ _).mono ?_
            rintro e' u' w'' ⟨rfl, rfl, rfl⟩
            have c2 := box_cell HP2.out.1
            have hB := HP2.out.2
            simp only [Leaves, settle, results, Try.results13]
            simp [go_sem, c2]
            exact hB
end W
end Go.Proofs.Ytpgnhnimndagpaa
