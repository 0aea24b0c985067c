/- The fixed example. -/
import Derived.Test.YtpgnhnimndagpaaSame
import Derived.Test.YtpgnhnimndagpaaPrefA
import Derived.Test.YtpgnhnimndagpaaWinX
import Derived.Test.YtpgnhnimndagpaaPowF
namespace Go.Proofs.Ytpgnhnimndagpaa
open Go.RowKit
attribute [local go_sem] Oper.semAt_some

theorem u64_emod (x : Int) : IntKind.u64.wrap x = x % 18446744073709551616 := by rw [IntKind.wrap_u64]
theorem emod_mul (a b m : Int) : (a % m * b) % m = (a * b) % m := by rw [Int.mul_emod, Int.emod_emod_of_dvd _ (Int.dvd_refl m), ← Int.mul_emod]
theorem mul_emod' (a b m : Int) : (a * (b % m)) % m = (a * b) % m := by rw [Int.mul_comm, emod_mul, Int.mul_comm]
theorem emod_l1 (a b c m : Int) : (a % m * b + c) % m = (a * b + c) % m := by rw [← Int.emod_add_emod, emod_mul, Int.emod_add_emod]
theorem emod_l2 (a b c m : Int) : (a * (b % m) + c) % m = (a * b + c) % m := by rw [← Int.emod_add_emod, mul_emod', Int.emod_add_emod]
theorem emod_l3 (a b c m : Int) : (a + (b % m + c)) % m = (a + (b + c)) % m := by rw [← Int.add_emod_emod, Int.emod_add_emod, Int.add_emod_emod]
theorem joinF_assoc (x y z : Int × Int) : joinF (joinF x y) z = joinF x (joinF y z) := by
  obtain ⟨x1, x2⟩ := x; obtain ⟨y1, y2⟩ := y; obtain ⟨z1, z2⟩ := z
  simp only [joinF, u64_emod, Prod.mk.injEq]
  constructor
  · rw [emod_mul, mul_emod', Int.mul_assoc]
  · simp only [Int.emod_add_emod, Int.add_emod_emod, emod_l1, emod_l2, emod_l3]
    congr 1
    rw [Int.add_mul, Int.mul_assoc]; omega
theorem maxI_assoc (x y z : Int) : maxI (maxI x y) z = maxI x (maxI y z) := by unfold maxI; omega
theorem addI_assoc (x y z : Int) : addI (addI x y) z = addI x (addI y z) := by unfold addI; simp only [wrap64]; omega

theorem awake_any (W : World) : Calls Try.prog 11 #[] W fun e w' => e = .returned (.bool true) ∧ Below W.heap.size W w' := by
  have HF : ∀ f, Fence.wide.fn f := fun _ => trivial
  have HL1 : Hid (RowAt (Value.int .i64) (W.alloc (.cells #[.int .i64 3, .int .i64 4, .int .i64 5] 3)) (.slice (some ⟨W.heap.size, 0, none⟩) 3 3) [3, 4, 5]) := Lib.hid (RowAt.lit (L := [3, 4, 5]) W rfl (by decide))
  have hb1 : Below W.heap.size W (W.alloc (.cells #[.int .i64 3, .int .i64 4, .int .i64 5] 3)) := (Below.refl _ _).alloc (Nat.le_refl _) _
  have HB1 := Lib.hid hb1; clear hb1
  go_enter Try.func11, Try.ntmps11
  go_wp2_with fail
  refine (A.pref_any HL1.out (by decide) (fun _ _ _ => True.intro)).mono ?_
  rintro e w2 ⟨r, rfl, hS, b2⟩
  have e1 : A.pfs [3, 4, 5] ([3, 4, 5] : List Int).length = [0, 3, 7, 12] := by kernel_rfl
  rw [e1] at hS
  have HR : Hid (RowAt (Value.int .i64) w2 r [0, 3, 7, 12]) := Lib.hid (SlA.row (ev := Value.int .i64) hS)
  have HB2 := Lib.hid (Below.step HB1.out b2)
  clear hS b2 e1
  have HL3 : Hid (RowAt (Value.int .i64) (w2.alloc (.cells #[.int .i64 5, .int .i64 1, .int .i64 4, .int .i64 2] 3)) (.slice (some ⟨w2.heap.size, 0, none⟩) 4 4) [5, 1, 4, 2]) := Lib.hid (RowAt.lit (L := [5, 1, 4, 2]) w2 rfl (by decide))
  have hb3 : Below w2.heap.size w2 (w2.alloc (.cells #[.int .i64 5, .int .i64 1, .int .i64 4, .int .i64 2] 3)) := (Below.refl _ _).alloc (Nat.le_refl _) _
  have HB3 := Lib.hid (Below.step HB2.out hb3); have HR3 := Lib.hid (HR.out.below hb3); clear hb3
  go_wp2_with fail
  refine (X.win_any HL3.out (by decide) (n := 2) (by decide) (by decide) maxI_assoc (fun _ _ _ _ _ _ => True.intro)).mono ?_
  rintro e w4 ⟨r4, rfl, hS, b4⟩
  have e1 : (List.range (([5, 1, 4, 2] : List Int).length - 2 + 1)).map (winF maxI (-9223372036854775808) [5, 1, 4, 2] 2) = [5, 4, 4] := by kernel_rfl
  rw [e1] at hS
  have HR4 := Lib.hid hS; have HB4 := Lib.hid (Below.step HB3.out b4); have HR1 := Lib.hid (HR3.out.below b4)
  clear hS b4 e1
  go_wp2_with fail
  have B1 : Below w4.heap.size w4 (w4.alloc (.cells #[.int .i64 0, .int .i64 3, .int .i64 7, .int .i64 12] 3)) := (Below.refl _ _).alloc (Nat.le_refl _) _
  refine (same_eq (L := [0, 3, 7, 12]) (HR1.out.below B1) (RowAt.lit (L := [0, 3, 7, 12]) w4 rfl (by decide))).mono ?_
  rintro e w5 ⟨rfl, b5⟩
  have B5 := Below.step B1 b5
  have HR5 := Lib.hid (HR4.out.below B5); have HB5 := Lib.hid (Below.step HB4.out B5)
  clear B1 b5 B5
  go_wp2_with fail
  have B1 : Below w5.heap.size w5 (w5.alloc (.cells #[.int .i64 5, .int .i64 4, .int .i64 4] 3)) := (Below.refl _ _).alloc (Nat.le_refl _) _
  refine (same_eq (L := [5, 4, 4]) (HR5.out.below B1) (RowAt.lit (L := [5, 4, 4]) w5 rfl (by decide))).mono ?_
  rintro e w7 ⟨rfl, b7⟩
  have HB7 := Lib.hid (Below.step HB5.out (Below.step B1 b7))
  clear B1 b7
  go_wp2_with fail
  refine (F.pow_any _ (2, 1) 3 (by decide) joinF_assoc).mono ?_
  rintro e w8 ⟨rfl, b8⟩
  have e8 : pw joinF F.u (2, 1) (3 : Int).toNat = (8, 7) := by kernel_rfl
  rw [e8]
  have HB8 := Lib.hid (Below.step HB7.out b8)
  clear b8 e8
  go_wp2_with fail
  go_ret
  exact ⟨rfl, HB8.out⟩
end Go.Proofs.Ytpgnhnimndagpaa
