/- Arithmetic modulo P = 2^61 - 1: Reduce, Add, Mul, Pow; bits.Mul64. -/
import Derived.Test.YtpjcfepngjpfbaaProg
import Derived.WalkKit
import Derived.Lib.Mul64
import Derived.Lib.Hide
import Derived.Laws.Bits64b
import Derived.Tactics2
import Derived.Deep.LoopGhost
import Derived.Deep.Cut
import Derived.KernelRfl
namespace Go.Proofs.Ytpjcfepngjpfbaa
open Go.RowKit Go.Lib
namespace M
theorem maskN (a : Nat) (ha : a < 18446744073709551616) : bits .and .u64 (a : Int) 4294967295 = ((a % 4294967296 : Nat) : Int) := by
  have h := bits_and_u64_nat a 4294967295 ha (by omega)
  have e : a &&& 4294967295 = a % 4294967296 := Nat.and_two_pow_sub_one_eq_mod a 32
  rw [e] at h
  exact h
theorem maskP (a : Nat) (ha : a < 18446744073709551616) : bits .and .u64 (a : Int) 2305843009213693951 = ((a % 2305843009213693952 : Nat) : Int) := by
  have h := bits_and_u64_nat a 2305843009213693951 ha (by omega)
  have e : a &&& 2305843009213693951 = a % 2305843009213693952 := Nat.and_two_pow_sub_one_eq_mod a 61
  rw [e] at h
  exact h
theorem divN (a : Nat) : (a : Int) / 4294967296 = ((a / 4294967296 : Nat) : Int) := by omega
theorem divP (a : Nat) : (a : Int) / 2305843009213693952 = ((a / 2305843009213693952 : Nat) : Int) := by omega
theorem mulN (a b : Nat) : (a : Int) * (b : Int) = ((a * b : Nat) : Int) := (Int.natCast_mul a b).symm
theorem mul8 (a : Nat) : (a : Int) * 8 = ((a * 8 : Nat) : Int) := by omega
theorem addN (a b : Nat) : (a : Int) + (b : Int) = ((a + b : Nat) : Int) := (Int.natCast_add a b).symm
theorem wrapN (a : Nat) (ha : a < 18446744073709551616) : IntKind.u64.wrap (a : Int) = (a : Int) := by rw [IntKind.wrap_u64]; omega
theorem wrapM (a : Nat) : IntKind.u64.wrap (a : Int) = ((a % 18446744073709551616 : Nat) : Int) := by rw [IntKind.wrap_u64]; omega

set_option maxHeartbeats 1000000 in
theorem mul64_any (x y : Nat) (hx : x < 18446744073709551616) (hy : y < 18446744073709551616) (w : World) :
    Calls Try.prog 101 #[.int .u64 x, .int .u64 y] w fun e w' => e = .returned (.tuple #[.int .u64 ((x * y / 18446744073709551616 : Nat) : Int), .int .u64 ((x * y % 18446744073709551616 : Nat) : Int)]) ∧ w' = w := by
  obtain ⟨bd, bt, bw, hhi⟩ := Lib.mul64_hi x y hx hy
  have ba := Lib.half_mul_le (a := x / 4294967296) (b := y / 4294967296) (by omega) (by omega)
  have bb := Lib.half_mul_le (a := x / 4294967296) (b := y % 4294967296) (by omega) (by omega)
  have bc := Lib.half_mul_le (a := x % 4294967296) (b := y / 4294967296) (by omega) (by omega)
  have ba' : x / 4294967296 * (y / 4294967296) < 18446744073709551616 := by omega
  have bb' : x / 4294967296 * (y % 4294967296) < 18446744073709551616 := by omega
  have bc' : x % 4294967296 * (y / 4294967296) < 18446744073709551616 := by omega
  have bh1 : x / 4294967296 * (y / 4294967296) + (x / 4294967296 * (y % 4294967296) + x % 4294967296 * (y % 4294967296) / 4294967296) / 4294967296 < 18446744073709551616 := by omega
  have bh : x / 4294967296 * (y / 4294967296) + (x / 4294967296 * (y % 4294967296) + x % 4294967296 * (y % 4294967296) / 4294967296) / 4294967296 + ((x / 4294967296 * (y % 4294967296) + x % 4294967296 * (y % 4294967296) / 4294967296) % 4294967296 + x % 4294967296 * (y / 4294967296)) / 4294967296 < 18446744073709551616 := by omega
  go_enter Try.func101, Try.ntmps101
  go_wp2
  simp only [maskN x hx, maskN y hy, divN, mulN, addN, wrapN _ bd, wrapN _ bb', wrapN _ bt, maskN _ bt, wrapN _ bc', wrapN _ bw, wrapN _ ba', wrapN _ bh1, wrapN _ bh, wrapM (x * y)]
  rw [hhi]
  go_ret2
  exact ⟨rfl, rfl⟩

theorem red_plain {x y : Nat} (hx : x < 18446744073709551616) (hy : x % 2305843009213693952 + x / 2305843009213693952 = y) : (2305843009213693951 ≤ y → y - 2305843009213693951 = x % 2305843009213693951) ∧ (y < 2305843009213693951 → y = x % 2305843009213693951) ∧ y ≤ 2305843009213693959 := by
  obtain ⟨q, hq⟩ : ∃ q, x / 2305843009213693952 = q := ⟨_, rfl⟩
  obtain ⟨r, hr⟩ : ∃ r, x % 2305843009213693952 = r := ⟨_, rfl⟩
  have hx2 : x = 2305843009213693951 * q + y := by omega
  have hy2 : y ≤ 2305843009213693959 := by omega
  refine ⟨fun h => ?_, fun h => ?_, hy2⟩
  · have e : x = (y - 2305843009213693951) + 2305843009213693951 * (q + 1) := by omega
    rw [e, Nat.add_mul_mod_self_left, Nat.mod_eq_of_lt (by omega)]
  · rw [hx2, Nat.mul_add_mod, Nat.mod_eq_of_lt h]

set_option maxRecDepth 100000 in
set_option maxHeartbeats 1000000 in
theorem reduce_any (W : World) (x : Nat) (hx : x < 18446744073709551616) :
    Calls Try.prog 100 #[.int .u64 x] W fun e w' => e = .returned (.int .u64 ((x % 2305843009213693951 : Nat) : Int)) ∧ w' = W := by
  obtain ⟨y, hy⟩ : ∃ y, x % 2305843009213693952 + x / 2305843009213693952 = y := ⟨_, rfl⟩
  obtain ⟨k1, k2, k3⟩ := red_plain hx hy
  obtain ⟨z, hz⟩ : ∃ z, x % 2305843009213693951 = z := ⟨_, rfl⟩
  rw [hz] at k1 k2 ⊢
  have he : (x : Int) % 2305843009213693952 + (x : Int) / 2305843009213693952 = (y : Int) := by omega
  have hm : bits .and .u64 (x : Int) 2305843009213693951 = (x : Int) % 2305843009213693952 := by rw [maskP x hx]; omega
  have hw : IntKind.u64.wrap ((x : Int) % 2305843009213693952 + (x : Int) / 2305843009213693952) = (x : Int) % 2305843009213693952 + (x : Int) / 2305843009213693952 := by rw [IntKind.wrap_u64]; omega
  by_cases h : 2305843009213693951 ≤ y
  · have h1 : (2305843009213693951 : Int) ≤ (y : Int) := by omega
    have h2 : IntKind.u64.wrap ((y : Int) - 2305843009213693951) = (z : Int) := by rw [IntKind.wrap_u64]; have := k1 h; omega
    clear hy hz k1 k2 k3 h
    go_enter Try.func100, Try.ntmps100
    go_upto_region 2 with (fail)
    clear he hm hw
    go_wp2_with fail
    go_ret
    exact ⟨rfl, rfl⟩
  · have h1 : ¬ ((2305843009213693951 : Int) ≤ (y : Int)) := by omega
    have h2 : y = z := k2 (by omega)
    clear hy hz k1 k2 k3 h
    subst h2
    go_enter Try.func100, Try.ntmps100
    go_upto_region 2 with (fail)
    clear he hm hw
    go_wp2_with fail
    go_ret
    exact ⟨rfl, rfl⟩

def P : Nat := 2305843009213693951
theorem P_eq : P = 2305843009213693951 := rfl
set_option maxRecDepth 100000 in
set_option maxHeartbeats 1000000 in
theorem add_any (W : World) (x y : Nat) (hx : x < 18446744073709551616) (hy : y < 18446744073709551616) :
    Calls Try.prog 95 #[.int .u64 x, .int .u64 y] W fun e w' => e = .returned (.int .u64 (((x + y) % P : Nat) : Int)) ∧ w' = W := by
  obtain ⟨a, ha⟩ : ∃ a, x % 2305843009213693951 = a := ⟨_, rfl⟩
  obtain ⟨b, hb⟩ : ∃ b, y % 2305843009213693951 = b := ⟨_, rfl⟩
  have hab : a + b < 18446744073709551616 := by omega
  have hw : IntKind.u64.wrap ((a : Int) + (b : Int)) = ((a + b : Nat) : Int) := by rw [IntKind.wrap_u64]; omega
  have hz : (a + b) % 2305843009213693951 = (x + y) % P := by rw [← ha, ← hb, P_eq, ← Nat.add_mod]
  go_enter Try.func95, Try.ntmps95
  go_wp2_with fail
  refine (reduce_any W x hx).mono ?_; rintro e w1 ⟨rfl, h⟩; rw [h, ha]; clear h w1
  go_wp2_with fail
  refine (reduce_any W y hy).mono ?_; rintro e w1 ⟨rfl, h⟩; rw [h, hb]; clear h w1
  clear ha hb
  go_wp2_with fail
  refine (reduce_any W (a + b) hab).mono ?_; rintro e w1 ⟨rfl, h⟩; rw [h, hz]; clear h w1 hz hw
  go_wp2_with fail
  go_ret
  exact ⟨rfl, rfl⟩
theorem mul_plain {a b : Nat} (ha : a < 2305843009213693951) (hb : b < 2305843009213693951) : ∃ h l : Nat, a * b / 18446744073709551616 = h ∧ a * b % 18446744073709551616 = l ∧ h < 2305843009213693951 ∧ l < 18446744073709551616 ∧ (h * 8 + l / 2305843009213693952 + l % 2305843009213693952) % 2305843009213693951 = a * b % 2305843009213693951 ∧ h * 8 + l / 2305843009213693952 + l % 2305843009213693952 < 18446744073709551616 := by
  have hm : a * b ≤ 2305843009213693950 * 2305843009213693950 := Nat.mul_le_mul (by omega) (by omega)
  generalize a * b = n at *
  refine ⟨_, _, rfl, rfl, by omega, by omega, ?_, by omega⟩
  have e : n = (n / 18446744073709551616 * 8 + n % 18446744073709551616 / 2305843009213693952) * 2305843009213693951 + (n / 18446744073709551616 * 8 + n % 18446744073709551616 / 2305843009213693952 + n % 18446744073709551616 % 2305843009213693952) := by omega
  conv => rhs; rw [e, Nat.mul_add_mod_self_right]
set_option maxRecDepth 100000 in
set_option maxHeartbeats 1000000 in
theorem mul_any (W : World) (x y : Nat) (hx : x < 18446744073709551616) (hy : y < 18446744073709551616) :
    Calls Try.prog 96 #[.int .u64 x, .int .u64 y] W fun e w' => e = .returned (.int .u64 ((x * y % P : Nat) : Int)) ∧ w' = W := by
  obtain ⟨a, ha⟩ : ∃ a, x % 2305843009213693951 = a := ⟨_, rfl⟩
  obtain ⟨b, hb⟩ : ∃ b, y % 2305843009213693951 = b := ⟨_, rfl⟩
  have ha2 : a < 2305843009213693951 := by omega
  have hb2 : b < 2305843009213693951 := by omega
  have hz : a * b % 2305843009213693951 = x * y % P := by rw [← ha, ← hb, P_eq, ← Nat.mul_mod]
  obtain ⟨h, l, e1, e2, b1, b2, e3, b3⟩ := mul_plain ha2 hb2
  rw [hz] at e3
  have hm : bits .and .u64 (l : Int) 2305843009213693951 = ((l % 2305843009213693952 : Nat) : Int) := maskP l b2
  obtain ⟨m, hmm⟩ : ∃ m, l % 2305843009213693952 = m := ⟨_, rfl⟩
  obtain ⟨d, hd⟩ : ∃ m, l / 2305843009213693952 = m := ⟨_, rfl⟩
  have hl : (l : Int) / 2305843009213693952 = (d : Int) := by omega
  rw [hmm, hd] at e3 b3
  rw [hmm] at hm
  have w1 : IntKind.u64.wrap ((h : Int) * 8) = ((h * 8 : Nat) : Int) := by rw [IntKind.wrap_u64]; omega
  have w2 : IntKind.u64.wrap (((h * 8 : Nat) : Int) + (d : Int)) = ((h * 8 + d : Nat) : Int) := by rw [IntKind.wrap_u64]; omega
  have w3 : IntKind.u64.wrap (((h * 8 + d : Nat) : Int) + (m : Int)) = ((h * 8 + d + m : Nat) : Int) := by rw [IntKind.wrap_u64]; omega
  have HE := Lib.hid e1; have HE2 := Lib.hid e2; have HE3 := Lib.hid e3
  clear e1 e2 e3 hz hmm hd
  go_enter Try.func96, Try.ntmps96
  go_wp2_with fail
  refine (reduce_any W x hx).mono ?_; rintro e w1 ⟨rfl, h1⟩; rw [h1, ha]; clear h1 w1
  go_wp2_with fail
  refine (reduce_any W y hy).mono ?_; rintro e w1 ⟨rfl, h1⟩; rw [h1, hb]; clear h1 w1
  clear ha hb
  go_wp2_with fail
  refine (mul64_any a b (by omega) (by omega) W).mono ?_; rintro e w1 ⟨rfl, h1⟩; rw [h1, HE.out, HE2.out]; clear h1 w1
  go_wp2_with fail
  have e5 : (h : Int) * 8 + (d : Int) + (m : Int) = ((h * 8 + d + m : Nat) : Int) := by omega
  rw [e5]
  refine (reduce_any W (h * 8 + d + m) b3).mono ?_; rintro e w4 ⟨rfl, h1⟩; rw [h1, HE3.out]; clear h1 w4
  clear w1 w2 w3 hm hl e5
  go_wp2_with fail
  go_ret
  exact ⟨rfl, rfl⟩
/-- What Pow makes. -/
theorem pow_half (a n : Nat) : a ^ n % P = (if n % 2 = 1 then a else 1) * (a * a % P) ^ (n / 2) % P := by
  have e : n = n % 2 + 2 * (n / 2) := by omega
  have h2 : ∀ k, (a * a % P) ^ k % P = (a * a) ^ k % P := fun k => (Nat.pow_mod (a * a) k P).symm
  rw [Nat.mul_mod, h2, ← Nat.mul_mod]
  conv => lhs; rw [e, Nat.pow_add, Nat.pow_mul, Nat.pow_two]
  rcases Nat.mod_two_eq_zero_or_one n with h | h <;> simp [h]
set_option maxRecDepth 100000 in
set_option maxHeartbeats 2000000 in
theorem pow_any (W : World) (x n : Nat) (hx : x < 18446744073709551616) (hn : n < 18446744073709551616) :
    Calls Try.prog 94 #[.int .u64 x, .int .u64 n] W fun e w' => e = .returned (.int .u64 ((x ^ n % P : Nat) : Int)) ∧ w' = W := by
  obtain ⟨a0, ha0⟩ : ∃ a, x % 2305843009213693951 = a := ⟨_, rfl⟩
  have hz : x ^ n % P = a0 ^ n % P := by rw [← ha0, ← P_eq, ← Nat.pow_mod]
  have hlt : a0 < 2305843009213693951 := by omega
  rw [hz]
  clear hz
  obtain ⟨R, hR⟩ : ∃ r, a0 ^ n % P = r := ⟨_, rfl⟩
  rw [hR]
  have HR := Lib.hid hR; have HL := Lib.hid hlt
  clear hR hlt
  go_enter Try.func94, Try.ntmps94
  go_wp2_with fail
  refine (reduce_any W x hx).mono ?_; rintro e w1 ⟨rfl, h⟩; rw [h, ha0]; clear h w1 ha0
  go_wp2_with fail
  go_loopw [0, 1, 5] (fun u c r wr => ∃ a k b : Nat, u = .int .u64 a ∧ c = .int .u64 k ∧ r = .int .u64 b ∧ a < 2305843009213693951 ∧ b < 2305843009213693951 ∧ k < 18446744073709551616 ∧ b * a ^ k % P = R ∧ wr = W) (fun _ c _ _ => (intOf c).toNat)
  case atStart => exact ⟨a0, n, 1, rfl, rfl, rfl, HL.out, by omega, hn, by rw [Nat.one_mul]; exact HR.out, rfl⟩
  case round =>
    obtain ⟨a, k, b, rfl, rfl, rfl, ha, hb, hk, hr, rfl⟩ := hrel
    have hh := pow_half a k
    by_cases hk0 : 0 < k
    · have t1 : (0 : Int) < (k : Int) := by omega
      have hdm : ∀ z : Nat, z % P < 2305843009213693951 := fun z => Nat.mod_lt _ (by decide)
      rcases Nat.mod_two_eq_zero_or_one k with hm | hm
      · have hmi : (k : Int) % 2 = 0 := by omega
        rw [if_neg (by omega), Nat.one_mul] at hh
        have HN : Hid (b * (a * a % P) ^ (k / 2) % P = R) := Lib.hid (by rw [← hr, Nat.mul_mod, ← hh, ← Nat.mul_mod])
        have HA := Lib.hid (hdm (a * a))
        clear hh hr hdm hm HR HL
        go_wp2_with fail
        refine (mul_any wr a a (by omega) (by omega)).mono ?_; rintro e w1 ⟨rfl, h⟩; rw [h]; clear h w1
        obtain ⟨c, hc⟩ : ∃ c, a * a % P = c := ⟨_, rfl⟩
        rw [hc] at HN HA ⊢
        clear hc
        go_wp2_with fail
        go_roundw
        case rel => exact ⟨c, k / 2, b, rfl, by go_num, rfl, HA.out, hb, by omega, HN.out, trivial⟩
        case measure => simp [intOf]; omega
      · have hmi : (k : Int) % 2 = 1 := by omega
        rw [if_pos hm] at hh
        have HN : Hid ((b * a % P) * (a * a % P) ^ (k / 2) % P = R) := Lib.hid (by
          have e1 : b * a ^ k % P = b * (a * (a * a % P) ^ (k / 2)) % P := by rw [Nat.mul_mod, hh, ← Nat.mul_mod]
          rw [← hr, e1, ← Nat.mul_assoc, Nat.mul_mod (b * a % P), Nat.mod_mod, ← Nat.mul_mod])
        have HA := Lib.hid (hdm (a * a)); have HB := Lib.hid (hdm (b * a))
        clear hh hr hdm hm HR HL
        go_wp2_with fail
        refine (mul_any wr b a (by omega) (by omega)).mono ?_; rintro e w1 ⟨rfl, h⟩; rw [h]; clear h w1
        obtain ⟨d, hd⟩ : ∃ c, b * a % P = c := ⟨_, rfl⟩
        rw [hd] at HN HB ⊢
        clear hd
        go_wp2_with fail
        refine (mul_any wr a a (by omega) (by omega)).mono ?_; rintro e w1 ⟨rfl, h⟩; rw [h]; clear h w1
        obtain ⟨c, hc⟩ : ∃ c, a * a % P = c := ⟨_, rfl⟩
        rw [hc] at HN HA ⊢
        clear hc
        go_wp2_with fail
        go_roundw
        case rel =>
          exact ⟨c, k / 2, d, rfl, by go_num, rfl, HA.out, HB.out, by omega, HN.out, trivial⟩
        case measure => simp [intOf]; omega
    · obtain rfl : k = 0 := by omega
      have HB : Hid (b = R) := Lib.hid (by rw [← hr, Nat.pow_zero, Nat.mul_one, P_eq, Nat.mod_eq_of_lt hb])
      clear hh hr
      rw [HB.out]
      go_wp2_with fail
      go_ret
      exact ⟨rfl, rfl⟩
end M
end Go.Proofs.Ytpjcfepngjpfbaa
