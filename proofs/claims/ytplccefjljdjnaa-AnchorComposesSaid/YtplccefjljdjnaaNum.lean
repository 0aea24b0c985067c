/- Arithmetic modulo P = 2^61 - 1: Reduce, Add, Mul, Pow; bits.Mul64.
Lengths: Valid, Add, Mul, Range, Clip.
Texts and their weights. No program.
Digests and weights: blocks; Unit, Letter.
Digests: Join, Repeat. -/
import Derived.Test.YtplccefjljdjnaaProg
import Derived.WalkKit
import Derived.Lib.Mul64
import Derived.Lib.Hide
import Derived.Laws.Bits64b
import Derived.Tactics2
import Derived.Deep.LoopGhost
import Derived.Deep.Cut
import Derived.KernelRfl
import Derived.Outline
import Derived.Test.YtplccefjljdjnaaCom
set_option linter.unusedVariables false
set_option linter.unusedSimpArgs false
namespace Go.Proofs.Ytplccefjljdjnaa
open Go.RowKit Go.Lib
namespace M
theorem maskN (a : Nat) (ha : a < 18446744073709551616) : bits .and .u64 (a : Int) 4294967295 = ((a % 4294967296 : Nat) : Int) := by
  have h := bits_and_u64_nat a 4294967295 ha (by omega)
  have e : a &&& 4294967295 = a % 4294967296 := Nat.and_two_pow_sub_one_eq_mod a 32
  rw [e] at h
  exact h
theorem maskP (a : Nat) (ha : a < 18446744073709551616) : bits .and .u64 (a : Int) 2305843009213693951 = ((a % 2305843009213693952 : Nat) : Int) := by
  have h := bits_and_u64_nat a 2305843009213693951 ha (by omega)
  have e : a &&& 2305843009213693951 = a % 2305843009213693952 := Nat.and_two_pow_sub_one_eq_mod a 61
  rw [e] at h
  exact h
theorem divN (a : Nat) : (a : Int) / 4294967296 = ((a / 4294967296 : Nat) : Int) := by omega
theorem divP (a : Nat) : (a : Int) / 2305843009213693952 = ((a / 2305843009213693952 : Nat) : Int) := by omega
theorem mulN (a b : Nat) : (a : Int) * (b : Int) = ((a * b : Nat) : Int) := (Int.natCast_mul a b).symm
theorem mul8 (a : Nat) : (a : Int) * 8 = ((a * 8 : Nat) : Int) := by omega
theorem addN (a b : Nat) : (a : Int) + (b : Int) = ((a + b : Nat) : Int) := (Int.natCast_add a b).symm
theorem wrapN (a : Nat) (ha : a < 18446744073709551616) : IntKind.u64.wrap (a : Int) = (a : Int) := by rw [IntKind.wrap_u64]; omega
theorem wrapM (a : Nat) : IntKind.u64.wrap (a : Int) = ((a % 18446744073709551616 : Nat) : Int) := by rw [IntKind.wrap_u64]; omega

set_option maxHeartbeats 1000000 in
theorem mul64_any (x y : Nat) (hx : x < 18446744073709551616) (hy : y < 18446744073709551616) (w : World) :
    Calls Try.prog 100 #[.int .u64 x, .int .u64 y] w fun e w' => e = .returned (.tuple #[.int .u64 ((x * y / 18446744073709551616 : Nat) : Int), .int .u64 ((x * y % 18446744073709551616 : Nat) : Int)]) ∧ w' = w := by
  obtain ⟨bd, bt, bw, hhi⟩ := Lib.mul64_hi x y hx hy
  have ba := Lib.half_mul_le (a := x / 4294967296) (b := y / 4294967296) (by omega) (by omega)
  have bb := Lib.half_mul_le (a := x / 4294967296) (b := y % 4294967296) (by omega) (by omega)
  have bc := Lib.half_mul_le (a := x % 4294967296) (b := y / 4294967296) (by omega) (by omega)
  have ba' : x / 4294967296 * (y / 4294967296) < 18446744073709551616 := by omega
  have bb' : x / 4294967296 * (y % 4294967296) < 18446744073709551616 := by omega
  have bc' : x % 4294967296 * (y / 4294967296) < 18446744073709551616 := by omega
  have bh1 : x / 4294967296 * (y / 4294967296) + (x / 4294967296 * (y % 4294967296) + x % 4294967296 * (y % 4294967296) / 4294967296) / 4294967296 < 18446744073709551616 := by omega
  have bh : x / 4294967296 * (y / 4294967296) + (x / 4294967296 * (y % 4294967296) + x % 4294967296 * (y % 4294967296) / 4294967296) / 4294967296 + ((x / 4294967296 * (y % 4294967296) + x % 4294967296 * (y % 4294967296) / 4294967296) % 4294967296 + x % 4294967296 * (y / 4294967296)) / 4294967296 < 18446744073709551616 := by omega
  go_enter Try.func100, Try.ntmps100
  go_wp2
  simp only [maskN x hx, maskN y hy, divN, mulN, addN, wrapN _ bd, wrapN _ bb', wrapN _ bt, maskN _ bt, wrapN _ bc', wrapN _ bw, wrapN _ ba', wrapN _ bh1, wrapN _ bh, wrapM (x * y)]
  rw [hhi]
  go_ret2
  exact ⟨rfl, rfl⟩

theorem red_plain {x y : Nat} (hx : x < 18446744073709551616) (hy : x % 2305843009213693952 + x / 2305843009213693952 = y) : (2305843009213693951 ≤ y → y - 2305843009213693951 = x % 2305843009213693951) ∧ (y < 2305843009213693951 → y = x % 2305843009213693951) ∧ y ≤ 2305843009213693959 := by
  obtain ⟨q, hq⟩ : ∃ q, x / 2305843009213693952 = q := ⟨_, rfl⟩
  obtain ⟨r, hr⟩ : ∃ r, x % 2305843009213693952 = r := ⟨_, rfl⟩
  have hx2 : x = 2305843009213693951 * q + y := by omega
  have hy2 : y ≤ 2305843009213693959 := by omega
  refine ⟨fun h => ?_, fun h => ?_, hy2⟩
  · have e : x = (y - 2305843009213693951) + 2305843009213693951 * (q + 1) := by omega
    rw [e, Nat.add_mul_mod_self_left, Nat.mod_eq_of_lt (by omega)]
  · rw [hx2, Nat.mul_add_mod, Nat.mod_eq_of_lt h]

set_option maxRecDepth 100000 in
set_option maxHeartbeats 1000000 in
theorem reduce_any (W : World) (x : Nat) (hx : x < 18446744073709551616) :
    Calls Try.prog 95 #[.int .u64 x] W fun e w' => e = .returned (.int .u64 ((x % 2305843009213693951 : Nat) : Int)) ∧ w' = W := by
  obtain ⟨y, hy⟩ : ∃ y, x % 2305843009213693952 + x / 2305843009213693952 = y := ⟨_, rfl⟩
  obtain ⟨k1, k2, k3⟩ := red_plain hx hy
  obtain ⟨z, hz⟩ : ∃ z, x % 2305843009213693951 = z := ⟨_, rfl⟩
  rw [hz] at k1 k2 ⊢
  have he : (x : Int) % 2305843009213693952 + (x : Int) / 2305843009213693952 = (y : Int) := by omega
  have hm : bits .and .u64 (x : Int) 2305843009213693951 = (x : Int) % 2305843009213693952 := by rw [maskP x hx]; omega
  have hw : IntKind.u64.wrap ((x : Int) % 2305843009213693952 + (x : Int) / 2305843009213693952) = (x : Int) % 2305843009213693952 + (x : Int) / 2305843009213693952 := by rw [IntKind.wrap_u64]; omega
  by_cases h : 2305843009213693951 ≤ y
  · have h1 : (2305843009213693951 : Int) ≤ (y : Int) := by omega
    have h2 : IntKind.u64.wrap ((y : Int) - 2305843009213693951) = (z : Int) := by rw [IntKind.wrap_u64]; have := k1 h; omega
    clear hy hz k1 k2 k3 h
    go_enter Try.func95, Try.ntmps95
    go_upto_region 2 with (fail)
    clear he hm hw
    go_wp2_with fail
    go_ret
    exact ⟨rfl, rfl⟩
  · have h1 : ¬ ((2305843009213693951 : Int) ≤ (y : Int)) := by omega
    have h2 : y = z := k2 (by omega)
    clear hy hz k1 k2 k3 h
    subst h2
    go_enter Try.func95, Try.ntmps95
    go_upto_region 2 with (fail)
    clear he hm hw
    go_wp2_with fail
    go_ret
    exact ⟨rfl, rfl⟩

def P : Nat := 2305843009213693951
theorem P_eq : P = 2305843009213693951 := rfl
set_option maxRecDepth 100000 in
set_option maxHeartbeats 1000000 in
theorem add_any (W : World) (x y : Nat) (hx : x < 18446744073709551616) (hy : y < 18446744073709551616) :
    Calls Try.prog 97 #[.int .u64 x, .int .u64 y] W fun e w' => e = .returned (.int .u64 (((x + y) % P : Nat) : Int)) ∧ w' = W := by
  obtain ⟨a, ha⟩ : ∃ a, x % 2305843009213693951 = a := ⟨_, rfl⟩
  obtain ⟨b, hb⟩ : ∃ b, y % 2305843009213693951 = b := ⟨_, rfl⟩
  have hab : a + b < 18446744073709551616 := by omega
  have hw : IntKind.u64.wrap ((a : Int) + (b : Int)) = ((a + b : Nat) : Int) := by rw [IntKind.wrap_u64]; omega
  have hz : (a + b) % 2305843009213693951 = (x + y) % P := by rw [← ha, ← hb, P_eq, ← Nat.add_mod]
  go_enter Try.func97, Try.ntmps97
  go_wp2_with fail
  refine (reduce_any W x hx).mono ?_; rintro e w1 ⟨rfl, h⟩; rw [h, ha]; clear h w1
  go_wp2_with fail
  refine (reduce_any W y hy).mono ?_; rintro e w1 ⟨rfl, h⟩; rw [h, hb]; clear h w1
  clear ha hb
  go_wp2_with fail
  refine (reduce_any W (a + b) hab).mono ?_; rintro e w1 ⟨rfl, h⟩; rw [h, hz]; clear h w1 hz hw
  go_wp2_with fail
  go_ret
  exact ⟨rfl, rfl⟩
theorem mul_plain {a b : Nat} (ha : a < 2305843009213693951) (hb : b < 2305843009213693951) : ∃ h l : Nat, a * b / 18446744073709551616 = h ∧ a * b % 18446744073709551616 = l ∧ h < 2305843009213693951 ∧ l < 18446744073709551616 ∧ (h * 8 + l / 2305843009213693952 + l % 2305843009213693952) % 2305843009213693951 = a * b % 2305843009213693951 ∧ h * 8 + l / 2305843009213693952 + l % 2305843009213693952 < 18446744073709551616 := by
  have hm : a * b ≤ 2305843009213693950 * 2305843009213693950 := Nat.mul_le_mul (by omega) (by omega)
  generalize a * b = n at *
  refine ⟨_, _, rfl, rfl, by omega, by omega, ?_, by omega⟩
  have e : n = (n / 18446744073709551616 * 8 + n % 18446744073709551616 / 2305843009213693952) * 2305843009213693951 + (n / 18446744073709551616 * 8 + n % 18446744073709551616 / 2305843009213693952 + n % 18446744073709551616 % 2305843009213693952) := by omega
  conv => rhs; rw [e, Nat.mul_add_mod_self_right]
set_option maxRecDepth 100000 in
set_option maxHeartbeats 1000000 in
theorem mul_any (W : World) (x y : Nat) (hx : x < 18446744073709551616) (hy : y < 18446744073709551616) :
    Calls Try.prog 96 #[.int .u64 x, .int .u64 y] W fun e w' => e = .returned (.int .u64 ((x * y % P : Nat) : Int)) ∧ w' = W := by
  obtain ⟨a, ha⟩ : ∃ a, x % 2305843009213693951 = a := ⟨_, rfl⟩
  obtain ⟨b, hb⟩ : ∃ b, y % 2305843009213693951 = b := ⟨_, rfl⟩
  have ha2 : a < 2305843009213693951 := by omega
  have hb2 : b < 2305843009213693951 := by omega
  have hz : a * b % 2305843009213693951 = x * y % P := by rw [← ha, ← hb, P_eq, ← Nat.mul_mod]
  obtain ⟨h, l, e1, e2, b1, b2, e3, b3⟩ := mul_plain ha2 hb2
  rw [hz] at e3
  have hm : bits .and .u64 (l : Int) 2305843009213693951 = ((l % 2305843009213693952 : Nat) : Int) := maskP l b2
  obtain ⟨m, hmm⟩ : ∃ m, l % 2305843009213693952 = m := ⟨_, rfl⟩
  obtain ⟨d, hd⟩ : ∃ m, l / 2305843009213693952 = m := ⟨_, rfl⟩
  have hl : (l : Int) / 2305843009213693952 = (d : Int) := by omega
  rw [hmm, hd] at e3 b3
  rw [hmm] at hm
  have w1 : IntKind.u64.wrap ((h : Int) * 8) = ((h * 8 : Nat) : Int) := by rw [IntKind.wrap_u64]; omega
  have w2 : IntKind.u64.wrap (((h * 8 : Nat) : Int) + (d : Int)) = ((h * 8 + d : Nat) : Int) := by rw [IntKind.wrap_u64]; omega
  have w3 : IntKind.u64.wrap (((h * 8 + d : Nat) : Int) + (m : Int)) = ((h * 8 + d + m : Nat) : Int) := by rw [IntKind.wrap_u64]; omega
  have HE := Lib.hid e1; have HE2 := Lib.hid e2; have HE3 := Lib.hid e3
  clear e1 e2 e3 hz hmm hd
  go_enter Try.func96, Try.ntmps96
  go_wp2_with fail
  refine (reduce_any W x hx).mono ?_; rintro e w1 ⟨rfl, h1⟩; rw [h1, ha]; clear h1 w1
  go_wp2_with fail
  refine (reduce_any W y hy).mono ?_; rintro e w1 ⟨rfl, h1⟩; rw [h1, hb]; clear h1 w1
  clear ha hb
  go_wp2_with fail
  refine (mul64_any a b (by omega) (by omega) W).mono ?_; rintro e w1 ⟨rfl, h1⟩; rw [h1, HE.out, HE2.out]; clear h1 w1
  go_wp2_with fail
  have e5 : (h : Int) * 8 + (d : Int) + (m : Int) = ((h * 8 + d + m : Nat) : Int) := by omega
  rw [e5]
  refine (reduce_any W (h * 8 + d + m) b3).mono ?_; rintro e w4 ⟨rfl, h1⟩; rw [h1, HE3.out]; clear h1 w4
  clear w1 w2 w3 hm hl e5
  go_wp2_with fail
  go_ret
  exact ⟨rfl, rfl⟩
/-- What Pow makes. -/
theorem pow_half (a n : Nat) : a ^ n % P = (if n % 2 = 1 then a else 1) * (a * a % P) ^ (n / 2) % P := by
  have e : n = n % 2 + 2 * (n / 2) := by omega
  have h2 : ∀ k, (a * a % P) ^ k % P = (a * a) ^ k % P := fun k => (Nat.pow_mod (a * a) k P).symm
  rw [Nat.mul_mod, h2, ← Nat.mul_mod]
  conv => lhs; rw [e, Nat.pow_add, Nat.pow_mul, Nat.pow_two]
  rcases Nat.mod_two_eq_zero_or_one n with h | h <;> simp [h]
set_option maxRecDepth 100000 in
set_option maxHeartbeats 2000000 in
theorem pow_any (W : World) (x n : Nat) (hx : x < 18446744073709551616) (hn : n < 18446744073709551616) :
    Calls Try.prog 86 #[.int .u64 x, .int .u64 n] W fun e w' => e = .returned (.int .u64 ((x ^ n % P : Nat) : Int)) ∧ w' = W := by
  obtain ⟨a0, ha0⟩ : ∃ a, x % 2305843009213693951 = a := ⟨_, rfl⟩
  have hz : x ^ n % P = a0 ^ n % P := by rw [← ha0, ← P_eq, ← Nat.pow_mod]
  have hlt : a0 < 2305843009213693951 := by omega
  rw [hz]
  clear hz
  obtain ⟨R, hR⟩ : ∃ r, a0 ^ n % P = r := ⟨_, rfl⟩
  rw [hR]
  have HR := Lib.hid hR; have HL := Lib.hid hlt
  clear hR hlt
  go_enter Try.func86, Try.ntmps86
  go_wp2_with fail
  refine (reduce_any W x hx).mono ?_; rintro e w1 ⟨rfl, h⟩; rw [h, ha0]; clear h w1 ha0
  go_wp2_with fail
  go_loopw [0, 1, 5] (fun u c r wr => ∃ a k b : Nat, u = .int .u64 a ∧ c = .int .u64 k ∧ r = .int .u64 b ∧ a < 2305843009213693951 ∧ b < 2305843009213693951 ∧ k < 18446744073709551616 ∧ b * a ^ k % P = R ∧ wr = W) (fun _ c _ _ => (intOf c).toNat)
  case atStart => exact ⟨a0, n, 1, rfl, rfl, rfl, HL.out, by omega, hn, by rw [Nat.one_mul]; exact HR.out, rfl⟩
  case round =>
    obtain ⟨a, k, b, rfl, rfl, rfl, ha, hb, hk, hr, rfl⟩ := hrel
    have hh := pow_half a k
    by_cases hk0 : 0 < k
    · have t1 : (0 : Int) < (k : Int) := by omega
      have hdm : ∀ z : Nat, z % P < 2305843009213693951 := fun z => Nat.mod_lt _ (by decide)
      rcases Nat.mod_two_eq_zero_or_one k with hm | hm
      · have hmi : (k : Int) % 2 = 0 := by omega
        rw [if_neg (by omega), Nat.one_mul] at hh
        have HN : Hid (b * (a * a % P) ^ (k / 2) % P = R) := Lib.hid (by rw [← hr, Nat.mul_mod, ← hh, ← Nat.mul_mod])
        have HA := Lib.hid (hdm (a * a))
        clear hh hr hdm hm HR HL
        go_wp2_with fail
        refine (mul_any wr a a (by omega) (by omega)).mono ?_; rintro e w1 ⟨rfl, h⟩; rw [h]; clear h w1
        obtain ⟨c, hc⟩ : ∃ c, a * a % P = c := ⟨_, rfl⟩
        rw [hc] at HN HA ⊢
        clear hc
        go_wp2_with fail
        go_roundw
        case rel => exact ⟨c, k / 2, b, rfl, by go_num, rfl, HA.out, hb, by omega, HN.out, trivial⟩
        case measure => simp [intOf]; omega
      · have hmi : (k : Int) % 2 = 1 := by omega
        rw [if_pos hm] at hh
        have HN : Hid ((b * a % P) * (a * a % P) ^ (k / 2) % P = R) := Lib.hid (by
          have e1 : b * a ^ k % P = b * (a * (a * a % P) ^ (k / 2)) % P := by rw [Nat.mul_mod, hh, ← Nat.mul_mod]
          rw [← hr, e1, ← Nat.mul_assoc, Nat.mul_mod (b * a % P), Nat.mod_mod, ← Nat.mul_mod])
        have HA := Lib.hid (hdm (a * a)); have HB := Lib.hid (hdm (b * a))
        clear hh hr hdm hm HR HL
        go_wp2_with fail
        refine (mul_any wr b a (by omega) (by omega)).mono ?_; rintro e w1 ⟨rfl, h⟩; rw [h]; clear h w1
        obtain ⟨d, hd⟩ : ∃ c, b * a % P = c := ⟨_, rfl⟩
        rw [hd] at HN HB ⊢
        clear hd
        go_wp2_with fail
        refine (mul_any wr a a (by omega) (by omega)).mono ?_; rintro e w1 ⟨rfl, h⟩; rw [h]; clear h w1
        obtain ⟨c, hc⟩ : ∃ c, a * a % P = c := ⟨_, rfl⟩
        rw [hc] at HN HA ⊢
        clear hc
        go_wp2_with fail
        go_roundw
        case rel =>
          exact ⟨c, k / 2, d, rfl, by go_num, rfl, HA.out, HB.out, by omega, HN.out, trivial⟩
        case measure => simp [intOf]; omega
    · obtain rfl : k = 0 := by omega
      have HB : Hid (b = R) := Lib.hid (by rw [← hr, Nat.pow_zero, Nat.mul_one, P_eq, Nat.mod_eq_of_lt hb])
      clear hh hr
      rw [HB.out]
      go_wp2_with fail
      go_ret
      exact ⟨rfl, rfl⟩
end M
end Go.Proofs.Ytplccefjljdjnaa
namespace Go.Proofs.Ytplccefjljdjnaa
open Go.RowKit Go.Lib
namespace M
attribute [local go_sem] Oper.semAt_some
def err (c : Int) : Value := .iface 54 (.int .i64 c)
def errV (c : Int) : Value := if c = 0 then .nilIface else err c
theorem errV_0 : errV 0 = .nilIface := rfl
/-- The greatest length. -/
abbrev mx : Nat := 1152921504606846976
set_option maxRecDepth 100000 in
theorem valid_any (W : World) (n : Int) : Calls Try.prog 67 #[.int .i64 n] W fun e w' => e = .returned (.bool (decide (0 ≤ n ∧ n ≤ 1152921504606846976))) ∧ w' = W := by
  by_cases h1 : 0 ≤ n
  · by_cases h2 : n ≤ 1152921504606846976
    · have e : decide (0 ≤ n ∧ n ≤ 1152921504606846976) = true := decide_eq_true ⟨h1, h2⟩
      rw [e]
      go_enter Try.func67, Try.ntmps67
      go_wp2_with fail
      go_ret
      exact ⟨rfl, rfl⟩
    · have e : decide (0 ≤ n ∧ n ≤ 1152921504606846976) = false := decide_eq_false (fun h => h2 h.2)
      rw [e]
      go_enter Try.func67, Try.ntmps67
      go_wp2_with fail
      go_ret
      exact ⟨rfl, rfl⟩
  · have e : decide (0 ≤ n ∧ n ≤ 1152921504606846976) = false := decide_eq_false (fun h => h1 h.1)
    rw [e]
    go_enter Try.func67, Try.ntmps67
    go_wp2_with fail
    go_ret
    exact ⟨rfl, rfl⟩
theorem valid_yes (W : World) {n : Nat} (h : n ≤ 1152921504606846976) : Calls Try.prog 67 #[.int .i64 n] W fun e w' => e = .returned (.bool true) ∧ w' = W := by
  refine (valid_any W n).mono fun e w h' => ⟨?_, h'.2⟩
  rw [h'.1, decide_eq_true (by constructor <;> omega)]
set_option maxRecDepth 100000 in
theorem add1_any (W : World) {a b : Nat} (ha : a ≤ 1152921504606846976) (hb : b ≤ 1152921504606846976) : Calls Try.prog 46 #[.int .i64 a, .int .i64 b] W fun e w' => e = .returned (if a + b ≤ 1152921504606846976 then .tuple #[.int .i64 ((a + b : Nat) : Int), .nilIface] else .tuple #[.int .i64 0, err 2]) ∧ w' = W := by
  have hw : IntKind.i64.wrap (1152921504606846976 - (b : Int)) = 1152921504606846976 - (b : Int) := by rw [IntKind.wrap_i64]; omega
  have hw2 : IntKind.i64.wrap ((a : Int) + (b : Int)) = (a : Int) + (b : Int) := by rw [IntKind.wrap_i64]; omega
  by_cases h : a + b ≤ 1152921504606846976
  all_goals
    first | (have t : ¬ ((a : Int) > 1152921504606846976 - (b : Int)) := by omega) | (have t : (a : Int) > 1152921504606846976 - (b : Int) := by omega)
    first | rw [if_pos h] | rw [if_neg h]
    clear h
    go_enter Try.func46, Try.ntmps46
    go_wp2_with fail
    refine (valid_yes W ha).mono ?_; rintro e w1 ⟨rfl, h⟩; rw [h]; clear h w1
    go_wp2_with fail
    refine (valid_yes W hb).mono ?_; rintro e w1 ⟨rfl, h⟩; rw [h]; clear h w1
    go_wp2_with fail
    go_ret2
    first | exact ⟨rfl, rfl⟩ | exact ⟨by simp, rfl⟩
set_option maxRecDepth 100000 in
theorem mul1_any (W : World) {a k : Nat} (ha : a ≤ 1152921504606846976) (h0 : 0 < a) (hk : k ≤ 9223372036854775807) : Calls Try.prog 55 #[.int .i64 a, .int .i64 k] W fun e w' => e = .returned (if a * k ≤ 1152921504606846976 then .tuple #[.int .i64 ((a * k : Nat) : Int), .nilIface] else .tuple #[.int .i64 0, err 2]) ∧ w' = W := by
  obtain ⟨q, hq⟩ : ∃ q, 1152921504606846976 / a = q := ⟨_, rfl⟩
  have hqq : Int.tdiv 1152921504606846976 (a : Int) = (q : Int) := by rw [← hq]; rfl
  have hiff : k ≤ q ↔ a * k ≤ 1152921504606846976 := by rw [← hq, Nat.le_div_iff_mul_le h0, Nat.mul_comm]
  have hq2 : q ≤ 1152921504606846976 := by rw [← hq]; exact Nat.div_le_self _ _
  have z0 : ¬ ((a : Int) = 0) := by omega
  have z1 : ((a : Int) == 0) = false := by simpa using z0
  have hwq : IntKind.i64.wrap (q : Int) = (q : Int) := by rw [IntKind.wrap_i64]; omega
  have k0 : ¬ ((k : Int) < 0) := by omega
  have ee : (a : Int) * (k : Int) = ((a * k : Nat) : Int) := (Int.natCast_mul a k).symm
  by_cases h : a * k ≤ 1152921504606846976
  all_goals
    first | (have t : ¬ ((k : Int) > (q : Int)) := by have := hiff.2 h; omega) | (have t : (k : Int) > (q : Int) := by have := fun x => h (hiff.1 x); omega)
    first | (have hw2 : IntKind.i64.wrap ((a : Int) * (k : Int)) = (a : Int) * (k : Int) := by rw [IntKind.wrap_i64, ee]; omega) | skip
    first | rw [if_pos h] | rw [if_neg h]
    clear h hiff hq ee
    go_enter Try.func55, Try.ntmps55
    go_wp2_with fail
    refine (valid_yes W ha).mono ?_; rintro e w1 ⟨rfl, h⟩; rw [h]; clear h w1
    go_wp2_with fail
    go_ret2
    first | exact ⟨rfl, rfl⟩ | exact ⟨by simp, rfl⟩
set_option maxRecDepth 100000 in
theorem clip_any (W : World) (n l h : Int) : Calls Try.prog 40 #[.int .i64 n, .int .i64 l, .int .i64 h] W fun e w' => e = .returned (.int .i64 (if n < l then l else if n > h then h else n)) ∧ w' = W := by
  by_cases h1 : n < l
  · rw [if_pos h1]
    go_enter Try.func40, Try.ntmps40
    go_wp2_with fail
    go_ret
    exact ⟨rfl, rfl⟩
  · rw [if_neg h1]
    by_cases h2 : n > h
    · rw [if_pos h2]
      go_enter Try.func40, Try.ntmps40
      go_wp2_with fail
      go_ret
      exact ⟨rfl, rfl⟩
    · rw [if_neg h2]
      go_enter Try.func40, Try.ntmps40
      go_wp2_with fail
      go_ret
      exact ⟨rfl, rfl⟩
end M
end Go.Proofs.Ytplccefjljdjnaa
namespace Go.Proofs.Ytplccefjljdjnaa
namespace M
def Q : Nat := 2305843009213693951
def bs : Nat := 1103515245
def stepM (m c v b : Nat) : Nat := (v * c + (b + 1)) % m
theorem foldM_lt {m c : Nat} (hm : 0 < m) : ∀ (t : List Nat) (v : Nat), v < m → t.foldl (stepM m c) v < m
  | [], v, h => h
  | b :: t, v, _ => foldM_lt hm t _ (Nat.mod_lt _ hm)
theorem foldM_eq (m c : Nat) : ∀ (t : List Nat) (v : Nat), t.foldl (stepM m c) v % m = (v * c ^ t.length + t.foldl (stepM m c) 0) % m
  | [], v => by simp
  | b :: t, v => by
    rw [List.foldl_cons, List.foldl_cons, foldM_eq m c t (stepM m c v b), List.length_cons, Nat.pow_succ]
    rw [Nat.add_mod (v * _) , foldM_eq m c t (stepM m c 0 b), ← Nat.add_mod]
    have h1 : ∀ x : Nat, (x % m * c ^ t.length + t.foldl (stepM m c) 0) % m = (x * c ^ t.length + t.foldl (stepM m c) 0) % m := fun x => by
      rw [Nat.add_mod, Nat.mod_mul_mod, ← Nat.add_mod]
    unfold stepM at h1 ⊢
    rw [h1, Nat.zero_mul, Nat.zero_add]
    have h2 : ∀ A X : Nat, (A + ((b + 1) % m * c ^ t.length + X)) % m = (A + ((b + 1) * c ^ t.length + X)) % m := fun A X => by
      rw [← Nat.add_assoc, ← Nat.add_assoc, Nat.add_mod, Nat.add_mod A, Nat.mod_mul_mod, ← Nat.add_mod A, ← Nat.add_mod]
    rw [h2, Nat.add_mul, Nat.mul_assoc, Nat.mul_comm c, Nat.add_assoc]
/-- The digest's value of a text. -/
def dgv (t : List Nat) : Nat := t.foldl (stepM Q bs) 0
structure Dg where
  v : Nat
  s : Nat
def joinD (a b : Dg) : Dg := ⟨(a.v * b.s + b.v) % Q, a.s * b.s % Q⟩
def dg (t : List Nat) : Dg := ⟨dgv t, bs ^ t.length % Q⟩
structure Wt where
  len : Nat
  lines : Nat
  head : Nat
  tail : Nat
  d : Dg
def hdT (t : List Nat) : Nat := t.findIdx (· == 10)
def tlT (t : List Nat) : Nat := t.reverse.findIdx (· == 10)
def wt (t : List Nat) : Wt := ⟨t.length, t.count 10, hdT t, tlT t, dg t⟩
def joinW (a b : Wt) : Wt := ⟨a.len + b.len, a.lines + b.lines, if a.lines = 0 then a.len + b.head else a.head, if b.lines = 0 then b.len + a.tail else b.tail, joinD a.d b.d⟩
/-- A text, k times. -/
def rep (k : Nat) (t : List Nat) : List Nat := (List.replicate k t).flatten
theorem rep_zero (t : List Nat) : rep 0 t = [] := rfl
theorem rep_one (t : List Nat) : rep 1 t = t := by simp [rep]
theorem rep_succ (k : Nat) (t : List Nat) : rep (k + 1) t = t ++ rep k t := by simp [rep, List.replicate_succ]
theorem rep_add (j k : Nat) (t : List Nat) : rep (j + k) t = rep j t ++ rep k t := by
  induction j with
  | zero => rw [Nat.zero_add]; rfl
  | succ j ih => rw [Nat.succ_add, rep_succ, ih, rep_succ, List.append_assoc]
theorem rep_length (k : Nat) (t : List Nat) : (rep k t).length = k * t.length := by simp [rep]
theorem rep_mul (j k : Nat) (t : List Nat) : rep j (rep k t) = rep (j * k) t := by
  induction j with
  | zero => rw [Nat.zero_mul]; rfl
  | succ j ih => rw [rep_succ, ih, Nat.succ_mul, Nat.add_comm, rep_add]
theorem Q_pos : 0 < Q := by decide
theorem dgv_lt (t : List Nat) : dgv t < Q := foldM_lt Q_pos t 0 Q_pos
theorem dgv_append (s t : List Nat) : dgv (s ++ t) = (dgv s * (bs ^ t.length % Q) + dgv t) % Q := by
  have h := foldM_eq Q bs t (dgv s)
  have h2 : dgv (s ++ t) = t.foldl (stepM Q bs) (dgv s) := by unfold dgv; rw [List.foldl_append]
  rw [h2, ← Nat.mod_eq_of_lt (foldM_lt Q_pos t (dgv s) (dgv_lt s)), h]
  show (dgv s * bs ^ t.length + dgv t) % Q = _
  rw [Nat.add_mod, Nat.mul_mod, Nat.add_mod (dgv s * (bs ^ t.length % Q)), Nat.mul_mod (dgv s) (bs ^ t.length % Q), Nat.mod_mod]
theorem dg_append (s t : List Nat) : dg (s ++ t) = joinD (dg s) (dg t) := by
  unfold dg joinD
  simp only [Dg.mk.injEq]
  refine ⟨dgv_append s t, ?_⟩
  rw [List.length_append, Nat.pow_add, Nat.mul_mod]
theorem hdT_append (s t : List Nat) : hdT (s ++ t) = if s.count 10 = 0 then s.length + hdT t else hdT s := by
  unfold hdT
  rw [List.findIdx_append]
  by_cases h : s.count 10 = 0
  · have h2 : ¬ (s.findIdx (· == 10) < s.length) := by
      rw [List.findIdx_lt_length]
      rintro ⟨x, hx, e⟩
      have : x = 10 := by simpa using e
      subst this
      exact (List.count_eq_zero.1 h) hx
    rw [if_neg h2, if_pos h, Nat.add_comm]
  · have h2 : s.findIdx (· == 10) < s.length := by
      rw [List.findIdx_lt_length]
      exact ⟨10, List.count_pos_iff.1 (Nat.pos_of_ne_zero h), by simp⟩
    rw [if_pos h2, if_neg h]
theorem tlT_append (s t : List Nat) : tlT (s ++ t) = if t.count 10 = 0 then t.length + tlT s else tlT t := by
  have := hdT_append t.reverse s.reverse
  rw [← List.reverse_append] at this
  unfold hdT at this
  unfold tlT
  rw [this, List.count_reverse, List.length_reverse]
theorem wt_append (s t : List Nat) : wt (s ++ t) = joinW (wt s) (wt t) := by
  unfold wt joinW
  simp only [Wt.mk.injEq]
  exact ⟨by simp, by simp, hdT_append s t, tlT_append s t, dg_append s t⟩
/-- A weight's fields fit each other. -/
structure Good (w : Wt) : Prop where
  none : w.lines = 0 → w.head = w.len ∧ w.tail = w.len
  some : 0 < w.lines → w.head + w.tail + w.lines ≤ w.len
  one : w.lines = 1 → w.head + w.tail + 1 = w.len
theorem Good.join {a b : Wt} (ha : Good a) (hb : Good b) : Good (joinW a b) := by
  obtain ⟨a1, a2, a3⟩ := ha
  obtain ⟨b1, b2, b3⟩ := hb
  obtain ⟨al, an, ah, at', ad⟩ := a
  obtain ⟨bl, bn, bh, bt, bd⟩ := b
  dsimp only at *
  unfold joinW
  refine ⟨fun h => ?_, fun h => ?_, fun h => ?_⟩
  all_goals
    dsimp only at *
    split <;> split <;> omega
theorem good_wt (t : List Nat) : Good (wt t) := by
  induction t with
  | nil => exact ⟨fun _ => ⟨rfl, rfl⟩, fun h => by simp [wt] at h, fun h => by simp [wt] at h⟩
  | cons b t ih =>
    have e : b :: t = [b] ++ t := rfl
    rw [e, wt_append]
    refine Good.join ?_ ih
    by_cases h : b = 10
    · subst h
      exact ⟨fun h => by simp [wt] at h, fun _ => by simp [wt, hdT, tlT, List.findIdx_cons], fun _ => by simp [wt, hdT, tlT, List.findIdx_cons]⟩
    · have h0 : [b].count 10 = 0 := by simp [List.count_cons, h]
      have hb : (b == 10) = false := by simpa using h
      have h1 : hdT [b] = 1 := by simp [hdT, List.findIdx_cons, hb]
      have h2 : tlT [b] = 1 := by simp [tlT, List.findIdx_cons, hb]
      refine ⟨fun _ => ⟨by simp [wt, h1], by simp [wt, h2]⟩, fun hh => ?_, fun hh => ?_⟩
      · have : 0 < [b].count 10 := hh
        omega
      · have : [b].count 10 = 1 := hh
        omega
end M
end Go.Proofs.Ytplccefjljdjnaa
namespace Go.Proofs.Ytplccefjljdjnaa
open Go.RowKit Go.Lib
theorem heap_new' (W : World) (o : Obj) : (W.alloc o).heap[W.heap.size]? = some o := by
  show (W.heap.push o)[W.heap.size]? = _
  simp
theorem heap_set0 {W : World} {g : Nat} {cs : Array Value} {t : TypeId} {i : Nat} (v : Value) (h : W.heap[g]? = some (.cells cs t (0, 0))) : (W.setCell ⟨g, i, none⟩ v).heap[g]? = some (.cells (cs.setIfInBounds i v) t (0, 0)) := by
  obtain ⟨hlt, hk⟩ := Array.getElem?_eq_some_iff.1 h
  show (W.heap.modify g _)[g]? = _
  rw [Array.getElem?_eq_getElem (by rw [Array.size_modify]; exact hlt), Array.getElem_modify_self, hk]
  rfl
theorem below_block {A B : World} {g : Nat} {o : Obj} (hb : Below A.heap.size A B) (h : A.heap[g]? = some o) : B.heap[g]? = some o := (hb.block g (Array.getElem?_eq_some_iff.1 h).1).trans h
theorem Below.after {A B C : World} (h : Below A.heap.size A B) (k : Below B.heap.size B C) : Below A.heap.size A C := h.trans (k.mono h.size)
namespace M
attribute [local go_sem] Oper.semAt_some
/-- A block with a digest. -/
def DgC (W : World) (g : Nat) (d : Dg) : Prop := W.heap[g]? = some (.cells #[.int .u64 d.v, .int .u64 d.s] 116 (0, 0))
abbrev dgV (d : Dg) : Value := .agg #[.int .u64 d.v, .int .u64 d.s]
theorem DgC.cells {W : World} {g : Nat} {d : Dg} (h : DgC W g d) : (W.cell? ⟨g, 0, none⟩ = some (.int .u64 d.v) ∧ W.cell? ⟨g, 1, none⟩ = some (.int .u64 d.s)) ∧ W.frozen? ⟨g, 0, none⟩ = false ∧ W.frozen? ⟨g, 1, none⟩ = false := by
  unfold DgC at h
  simp [World.cell?, World.frozen?, h]
theorem DgC.new (W : World) (d : Dg) : DgC (W.alloc (.cells #[.int .u64 d.v, .int .u64 d.s] 116)) W.heap.size d := heap_new' _ _
theorem DgC.set {W : World} {g : Nat} {d : Dg} (h : DgC W g d) (d' : Dg) : DgC ((W.setCell ⟨g, 0, none⟩ (.int .u64 d'.v)).setCell ⟨g, 1, none⟩ (.int .u64 d'.s)) g d' := by
  unfold DgC at h ⊢
  exact heap_set0 _ (heap_set0 _ h)
abbrev wtL (w : Wt) : List Value := [.int .i64 w.len, .int .i64 w.lines, .int .i64 w.head, .int .i64 w.tail, .int .u64 w.d.v, .int .u64 w.d.s]
abbrev wtV (w : Wt) : Value := .agg #[.int .i64 w.len, .int .i64 w.lines, .int .i64 w.head, .int .i64 w.tail, .int .u64 w.d.v, .int .u64 w.d.s]
def WtC (W : World) (g : Nat) (w : Wt) : Prop := W.heap[g]? = some (.cells #[.int .i64 w.len, .int .i64 w.lines, .int .i64 w.head, .int .i64 w.tail, .int .u64 w.d.v, .int .u64 w.d.s] 118 (0, 0))
section
variable {W : World} {g : Nat} {w : Wt}
theorem WtC.cells (h : WtC W g w) : W.cell? ⟨g, 0, none⟩ = some (.int .i64 w.len) ∧ W.cell? ⟨g, 1, none⟩ = some (.int .i64 w.lines) ∧ W.cell? ⟨g, 2, none⟩ = some (.int .i64 w.head) ∧ W.cell? ⟨g, 3, none⟩ = some (.int .i64 w.tail) ∧ W.cell? ⟨g, 4, none⟩ = some (.int .u64 w.d.v) ∧ W.cell? ⟨g, 5, none⟩ = some (.int .u64 w.d.s) := by
  unfold WtC at h
  simp [World.cell?, h]
theorem WtC.free (h : WtC W g w) (i : Nat) : W.frozen? ⟨g, i, none⟩ = false := by
  unfold WtC at h
  simp [World.frozen?, h]
theorem WtC.new (W : World) (w : Wt) : WtC (W.alloc (.cells #[.int .i64 w.len, .int .i64 w.lines, .int .i64 w.head, .int .i64 w.tail, .int .u64 w.d.v, .int .u64 w.d.s] 118)) W.heap.size w := heap_new' _ _
/-- All six cells written. -/
abbrev setW (W : World) (g : Nat) (w : Wt) : World := (((((W.setCell ⟨g, 0, none⟩ (.int .i64 w.len)).setCell ⟨g, 1, none⟩ (.int .i64 w.lines)).setCell ⟨g, 2, none⟩ (.int .i64 w.head)).setCell ⟨g, 3, none⟩ (.int .i64 w.tail)).setCell ⟨g, 4, none⟩ (.int .u64 w.d.v)).setCell ⟨g, 5, none⟩ (.int .u64 w.d.s)
theorem WtC.set (h : WtC W g w) (w' : Wt) : WtC (setW W g w') g w' := by
  unfold WtC at h ⊢
  exact heap_set0 _ (heap_set0 _ (heap_set0 _ (heap_set0 _ (heap_set0 _ (heap_set0 _ h)))))
theorem setW_below {n : Nat} {A : World} (h : Below n A W) (hg : n ≤ g) (w : Wt) : Below n A (setW W g w) :=
  (((((h.setCell (p := ⟨g, 0, none⟩) hg _).setCell (p := ⟨g, 1, none⟩) hg _).setCell (p := ⟨g, 2, none⟩) hg _).setCell (p := ⟨g, 3, none⟩) hg _).setCell (p := ⟨g, 4, none⟩) hg _).setCell (p := ⟨g, 5, none⟩) hg _
end
def w0 : Wt := ⟨0, 0, 0, 0, ⟨0, 0⟩⟩
set_option maxRecDepth 100000 in
theorem dunit_any (W : World) : Calls Try.prog 85 #[] W fun e w' => e = .returned (dgV (dg [])) ∧ Below W.heap.size W w' := by
  go_enter Try.func85, Try.ntmps85
  go_wp2_with fail
  exact bodyPost_ret (v := dgV (dg [])) (by simp [results, Try.results85, go_sem]; exact ⟨rfl, rfl⟩) rfl ⟨rfl, (Below.refl _ _).alloc (Nat.le_refl _) _⟩
set_option maxRecDepth 100000 in
theorem wunit_any (W : World) : Calls Try.prog 72 #[] W fun e w' => e = .returned (wtV (wt [])) ∧ Below W.heap.size W w' := by
  obtain ⟨W1, hW1⟩ : ∃ w, W.alloc (.cells #[.int .i64 0, .int .i64 0, .int .i64 0, .int .i64 0, .int .u64 0, .int .u64 0] 118) = w := ⟨_, rfl⟩
  have k1 : WtC W1 W.heap.size w0 := by rw [← hW1]; exact heap_new' _ _
  have b1 : Below W.heap.size W W1 := by rw [← hW1]; exact (Below.refl _ _).alloc (Nat.le_refl _) _
  have K1 := Lib.hid k1; have B1 := Lib.hid b1
  clear k1 b1
  go_enter Try.func72, Try.ntmps72
  go_wp2_with fail
  refine (dunit_any W1).mono ?_; rintro e w1 ⟨rfl, b2⟩
  have k2 := below_block b2 K1.out
  obtain ⟨c0, c1, c2, c3, c4, c5⟩ := WtC.cells k2
  have f0 := WtC.free k2 0; have f1 := WtC.free k2 1; have f2 := WtC.free k2 2; have f3 := WtC.free k2 3; have f4 := WtC.free k2 4; have f5 := WtC.free k2 5
  have K3 := Lib.hid (WtC.set k2 (wt []))
  have B3 := Lib.hid (setW_below (Below.after B1.out b2) (Nat.le_refl _) (wt []))
  obtain ⟨w3, hw3⟩ : ∃ w, setW w1 W.heap.size (wt []) = w := ⟨_, rfl⟩
  rw [hw3] at K3 B3
  have e0 : dgV (dg []) = .agg #[.int .u64 0, .int .u64 1] := rfl
  rw [e0]
  have hw3' : (((((w1.setCell ⟨W.heap.size, 0, none⟩ (.int .i64 0)).setCell ⟨W.heap.size, 1, none⟩ (.int .i64 0)).setCell ⟨W.heap.size, 2, none⟩ (.int .i64 0)).setCell ⟨W.heap.size, 3, none⟩ (.int .i64 0)).setCell ⟨W.heap.size, 4, none⟩ (.int .u64 0)).setCell ⟨W.heap.size, 5, none⟩ (.int .u64 1) = w3 := hw3
  clear hw3 k2 b2 hW1
  go_wp2_with fail
  obtain ⟨c0, c1, c2, c3, c4, c5⟩ := K3.out.cells
  exact bodyPost_ret (v := wtV (wt [])) (by simp [results, Try.results72, go_sem, c0, c1, c2, c3, c4, c5]) rfl ⟨rfl, B3.out⟩
set_option maxRecDepth 100000 in
theorem dletter_any (W : World) (b : Nat) (hb : b < 256) : Calls Try.prog 71 #[.int .u8 b] W fun e w' => e = .returned (dgV (dg [b])) ∧ Below W.heap.size W w' := by
  have e0 : dgV (dg [b]) = .agg #[.int .u64 ((b : Int) + 1), .int .u64 1103515245] := by
    have h1 : dgv [b] = b + 1 := by show (0 * bs + (b + 1)) % Q = _; rw [Nat.zero_mul, Nat.zero_add]; exact Nat.mod_eq_of_lt (by unfold Q; omega)
    have h2 : bs ^ [b].length % Q = 1103515245 := rfl
    unfold dgV dg
    dsimp only
    rw [h1, h2]
    rfl
  rw [e0]
  have hw : IntKind.u64.wrap ((b : Int) + 1) = (b : Int) + 1 := by rw [IntKind.wrap_u64]; omega
  have hw2 : IntKind.u64.wrap (b : Int) = (b : Int) := by rw [IntKind.wrap_u64]; omega
  go_enter Try.func71, Try.ntmps71
  go_wp2_with fail
  exact bodyPost_ret (v := .agg #[.int .u64 ((b : Int) + 1), .int .u64 1103515245]) (by simp [results, Try.results71, go_sem]) rfl ⟨rfl, (Below.refl _ _).alloc (Nat.le_refl _) _⟩
theorem wt_nl : wt [10] = ⟨1, 1, 0, 0, dg [10]⟩ := rfl
theorem wt_lt {b : Nat} (h : b ≠ 10) : wt [b] = ⟨1, 0, 1, 1, dg [b]⟩ := by
  have hb : (b == 10) = false := by simpa using h
  simp [wt, hdT, tlT, List.findIdx_cons, hb, List.count_cons]
set_option maxRecDepth 100000 in
theorem wletter_any (W : World) (b : Nat) (hb : b < 256) : Calls Try.prog 52 #[.int .u8 b] W fun e w' => e = .returned (wtV (wt [b])) ∧ Below W.heap.size W w' := by
  obtain ⟨W1, hW1⟩ : ∃ w, W.alloc (.cells #[.int .i64 0, .int .i64 0, .int .i64 0, .int .i64 0, .int .u64 0, .int .u64 0] 118) = w := ⟨_, rfl⟩
  have k1 : WtC W1 W.heap.size w0 := by rw [← hW1]; exact heap_new' _ _
  have b1 : Below W.heap.size W W1 := by rw [← hW1]; exact (Below.refl _ _).alloc (Nat.le_refl _) _
  have K1 := Lib.hid k1; have B1 := Lib.hid b1
  clear k1 b1
  by_cases h10 : b = 10
  · have hbb : ((b : Int) == 10) = true := by simp [h10]
    have e10 : wt [b] = ⟨1, 1, 0, 0, dg [b]⟩ := by rw [h10]; rfl
    clear h10
    go_enter Try.func52, Try.ntmps52
    go_wp2_with fail
    refine (dletter_any W1 b hb).mono ?_; rintro e w1 ⟨rfl, b2⟩
    obtain ⟨d, hd⟩ : ∃ d, dg [b] = d := ⟨_, rfl⟩
    have ev : dgV d = .agg #[.int .u64 d.v, .int .u64 d.s] := rfl
    rw [hd, ev]
    have HW : Hid (wt [b] = ⟨1, 1, 0, 0, d⟩) := Lib.hid (by rw [e10, hd])
    have k2 := below_block b2 K1.out
    obtain ⟨c0, c1, c2, c3, c4, c5⟩ := WtC.cells k2
    have f0 := WtC.free k2 0; have f1 := WtC.free k2 1; have f2 := WtC.free k2 2; have f3 := WtC.free k2 3; have f4 := WtC.free k2 4; have f5 := WtC.free k2 5
    have K3 := Lib.hid (WtC.set k2 ⟨1, 1, 0, 0, d⟩)
    have B3 := Lib.hid (setW_below (Below.after B1.out b2) (Nat.le_refl _) ⟨1, 1, 0, 0, d⟩)
    obtain ⟨w3, hw3⟩ : ∃ w, setW w1 W.heap.size ⟨1, 1, 0, 0, d⟩ = w := ⟨_, rfl⟩
    rw [hw3] at K3 B3
    have hw3' : (((((w1.setCell ⟨W.heap.size, 0, none⟩ (.int .i64 1)).setCell ⟨W.heap.size, 1, none⟩ (.int .i64 1)).setCell ⟨W.heap.size, 2, none⟩ (.int .i64 0)).setCell ⟨W.heap.size, 3, none⟩ (.int .i64 0)).setCell ⟨W.heap.size, 4, none⟩ (.int .u64 d.v)).setCell ⟨W.heap.size, 5, none⟩ (.int .u64 d.s) = w3 := hw3
    clear hw3 k2 b2 hW1 ev hd
    go_wp2_with fail
    obtain ⟨c0, c1, c2, c3, c4, c5⟩ := K3.out.cells
    exact bodyPost_ret (v := wtV ⟨1, 1, 0, 0, d⟩) (by simp [results, Try.results52, go_sem, c0, c1, c2, c3, c4, c5]) rfl ⟨by rw [HW.out], B3.out⟩
  · have hbb : ((b : Int) == 10) = false := by simp; omega
    have e10 := wt_lt h10
    clear h10
    go_enter Try.func52, Try.ntmps52
    go_wp2_with fail
    refine (dletter_any W1 b hb).mono ?_; rintro e w1 ⟨rfl, b2⟩
    obtain ⟨d, hd⟩ : ∃ d, dg [b] = d := ⟨_, rfl⟩
    have ev : dgV d = .agg #[.int .u64 d.v, .int .u64 d.s] := rfl
    rw [hd, ev]
    have HW : Hid (wt [b] = ⟨1, 0, 1, 1, d⟩) := Lib.hid (by rw [e10, hd])
    have k2 := below_block b2 K1.out
    obtain ⟨c0, c1, c2, c3, c4, c5⟩ := WtC.cells k2
    have f0 := WtC.free k2 0; have f1 := WtC.free k2 1; have f2 := WtC.free k2 2; have f3 := WtC.free k2 3; have f4 := WtC.free k2 4; have f5 := WtC.free k2 5
    have K3 := Lib.hid (WtC.set k2 ⟨1, 0, 1, 1, d⟩)
    have B3 := Lib.hid (setW_below (Below.after B1.out b2) (Nat.le_refl _) ⟨1, 0, 1, 1, d⟩)
    obtain ⟨w3, hw3⟩ : ∃ w, setW w1 W.heap.size ⟨1, 0, 1, 1, d⟩ = w := ⟨_, rfl⟩
    rw [hw3] at K3 B3
    have hw3' : (((((w1.setCell ⟨W.heap.size, 0, none⟩ (.int .i64 1)).setCell ⟨W.heap.size, 1, none⟩ (.int .i64 0)).setCell ⟨W.heap.size, 2, none⟩ (.int .i64 1)).setCell ⟨W.heap.size, 3, none⟩ (.int .i64 1)).setCell ⟨W.heap.size, 4, none⟩ (.int .u64 d.v)).setCell ⟨W.heap.size, 5, none⟩ (.int .u64 d.s) = w3 := hw3
    clear hw3 k2 b2 hW1 ev hd
    go_wp2_with fail
    obtain ⟨c0, c1, c2, c3, c4, c5⟩ := K3.out.cells
    exact bodyPost_ret (v := wtV ⟨1, 0, 1, 1, d⟩) (by simp [results, Try.results52, go_sem, c0, c1, c2, c3, c4, c5]) rfl ⟨by rw [HW.out], B3.out⟩
end M
end Go.Proofs.Ytplccefjljdjnaa
namespace Go.Proofs.Ytplccefjljdjnaa
open Go.RowKit Go.Lib
namespace M
attribute [local go_sem] Oper.semAt_some
theorem P_Q : P = Q := rfl
def Dg.ok (d : Dg) : Prop := d.v < 18446744073709551616 ∧ d.s < 18446744073709551616
theorem Q_lt : Q < 18446744073709551616 := by decide
theorem dg_ok (t : List Nat) : (dg t).ok := ⟨Nat.lt_trans (dgv_lt t) Q_lt, Nat.lt_trans (Nat.mod_lt _ Q_pos) Q_lt⟩
theorem joinD_ok (a b : Dg) : (joinD a b).ok := ⟨Nat.lt_trans (Nat.mod_lt _ Q_pos) Q_lt, Nat.lt_trans (Nat.mod_lt _ Q_pos) Q_lt⟩
set_option maxRecDepth 100000 in
theorem djoin_any (W : World) {a b : Dg} (ha : a.ok) (hb : b.ok) : Calls Try.prog 87 #[.agg #[.int .u64 a.v, .int .u64 a.s], .agg #[.int .u64 b.v, .int .u64 b.s]] W fun e w' => e = .returned (dgV (joinD a b)) ∧ Below W.heap.size W w' := by
  have HF : ∀ f, Fence.wide.fn f := fun _ => trivial
  obtain ⟨W1, hW1⟩ : ∃ w, ((W.alloc (.cells #[.int .u64 a.v, .int .u64 a.s] 116)).alloc (.cells #[.int .u64 b.v, .int .u64 b.s] 116)).alloc (.cells #[.int .u64 0, .int .u64 0] 116) = w := ⟨_, rfl⟩
  have k1 : DgC W1 W.heap.size a := by
    rw [← hW1]
    exact below_block ((Below.refl _ _).alloc (Nat.le_refl _) _) (below_block ((Below.refl _ _).alloc (Nat.le_refl _) _) (heap_new' W _))
  have k2 : DgC W1 (W.heap.size + 1) b := by
    rw [← hW1]
    have := heap_new' (W.alloc (.cells #[.int .u64 a.v, .int .u64 a.s] 116)) (.cells #[.int .u64 b.v, .int .u64 b.s] 116)
    rw [World.size_alloc] at this
    exact below_block ((Below.refl _ _).alloc (Nat.le_refl _) _) this
  have k3 : DgC W1 (W.heap.size + 1 + 1) ⟨0, 0⟩ := by
    rw [← hW1]
    have := heap_new' ((W.alloc (.cells #[.int .u64 a.v, .int .u64 a.s] 116)).alloc (.cells #[.int .u64 b.v, .int .u64 b.s] 116)) (.cells #[.int .u64 0, .int .u64 0] 116)
    simp only [World.size_alloc] at this
    exact this
  have b1 : Below W.heap.size W W1 := by
    rw [← hW1]
    exact (((Below.refl _ W).alloc (Nat.le_refl _) _).alloc (by simp) _).alloc (by simp only [World.size_alloc]; omega) _
  have a0 : ∀ w, Below W1.heap.size W1 w → w.cell? ⟨W.heap.size, 0, none⟩ = some (.int .u64 a.v) := fun w h => (DgC.cells (below_block h k1)).1.1
  have a1 : ∀ w, Below W1.heap.size W1 w → w.cell? ⟨W.heap.size, 1, none⟩ = some (.int .u64 a.s) := fun w h => (DgC.cells (below_block h k1)).1.2
  have b0 : ∀ w, Below W1.heap.size W1 w → w.cell? ⟨W.heap.size + 1, 0, none⟩ = some (.int .u64 b.v) := fun w h => (DgC.cells (below_block h k2)).1.1
  have b1' : ∀ w, Below W1.heap.size W1 w → w.cell? ⟨W.heap.size + 1, 1, none⟩ = some (.int .u64 b.s) := fun w h => (DgC.cells (below_block h k2)).1.2
  have HA := Lib.hid ha; have HB := Lib.hid hb; have B1 := Lib.hid b1; have K3 := Lib.hid k3
  have HJ := Lib.hid (show (joinD a b).v = (a.v * b.s % P + b.v) % P ∧ (joinD a b).s = a.s * b.s % P from ⟨by unfold joinD; rw [P_Q, Nat.mod_add_mod], rfl⟩)
  have HM : Hid (∀ z : Nat, z % P < 18446744073709551616) := Lib.hid (fun z => Nat.lt_trans (Nat.mod_lt _ Q_pos) Q_lt)
  clear k1 k2 k3 b1 ha hb
  go_enter Try.func87, Try.ntmps87
  go_wp2_with fail
  clear hW1
  refine wp_region_anyH (Below W1.heap.size W1) (by kernel_rfl) ?_
  have S0 : Below W1.heap.size W1 W1.drew := (Below.refl _ _).drew
  obtain ⟨w2, hw2⟩ : ∃ w, W1.drew = w := ⟨_, rfl⟩
  rw [hw2] at S0 ⊢
  clear hw2
  refine AnyH.take (i := 0) (d := some 5) (v := ?_) (by kernel_rfl) rfl rfl HF (fun _ _ _ h => h) (.inl ⟨by rfl, ?_⟩) (by first | assumption | rfl) ?_
  rotate_left
  · intro w hS; try subst hS
    go_simp; try with_reducible rfl
  try simp only [Act.put, List.setIfInBounds_toArray, List.set_cons_zero, List.set_cons_succ]
  refine AnyH.take (i := 1) (d := some 6) (v := ?_) (by kernel_rfl) rfl rfl HF (fun _ _ _ h => h) (.inl ⟨by rfl, ?_⟩) (by first | assumption | rfl) ?_
  rotate_left
  · intro w hS; try subst hS
    go_simp; try with_reducible rfl
  try simp only [Act.put, List.setIfInBounds_toArray, List.set_cons_zero, List.set_cons_succ]
  refine AnyH.take (i := 2) (d := some 7) (v := ?_) (by kernel_rfl) rfl rfl HF (fun _ _ _ h => h) (.inl ⟨by rfl, ?_⟩) (by first | assumption | rfl) ?_
  rotate_left
  · intro w hS; try subst hS
    go_simp; try with_reducible rfl
  try simp only [Act.put, List.setIfInBounds_toArray, List.set_cons_zero, List.set_cons_succ]
  refine AnyH.take (i := 3) (d := some 8) (v := ?_) (by kernel_rfl) rfl rfl HF (fun _ _ _ h => h) (.inl ⟨by rfl, ?_⟩) (by first | assumption | rfl) ?_
  rotate_left
  · intro w hS; try subst hS
    go_simp; try with_reducible rfl
  try simp only [Act.put, List.setIfInBounds_toArray, List.set_cons_zero, List.set_cons_succ]
  refine AnyH.take (i := 5) (d := some 10) (v := ?_) (by kernel_rfl) rfl rfl HF (fun _ _ _ h => h) (.inl ⟨by rfl, ?_⟩) (by first | assumption | rfl) ?_
  rotate_left
  · intro w hS; try subst hS
    go_simp; try with_reducible rfl
  try simp only [Act.put, List.setIfInBounds_toArray, List.set_cons_zero, List.set_cons_succ]
  refine AnyH.take (i := 6) (d := some 11) (v := ?_) (by kernel_rfl) rfl rfl HF (fun _ _ _ h => h) (.inl ⟨by rfl, ?_⟩) (by first | assumption | rfl) ?_
  rotate_left
  · intro w hS; try subst hS
    go_simp; try with_reducible rfl
  try simp only [Act.put, List.setIfInBounds_toArray, List.set_cons_zero, List.set_cons_succ]
  refine AnyH.take (i := 8) (d := some 13) (v := ?_) (by kernel_rfl) rfl rfl HF (fun _ _ _ h => h) (.inl ⟨by rfl, ?_⟩) (by first | assumption | rfl) ?_
  rotate_left
  · intro w hS; try subst hS
    go_simp; try with_reducible rfl
  try simp only [Act.put, List.setIfInBounds_toArray, List.set_cons_zero, List.set_cons_succ]
  refine AnyH.take (i := 9) (d := some 14) (v := ?_) (by kernel_rfl) rfl rfl HF (fun _ _ _ h => h) (.inl ⟨by rfl, ?_⟩) (by first | assumption | rfl) ?_
  rotate_left
  · intro w hS; try subst hS
    go_simp; try with_reducible rfl
  try simp only [Act.put, List.setIfInBounds_toArray, List.set_cons_zero, List.set_cons_succ]
  refine AnyH.take (i := 10) (d := some 15) (v := ?_) (by kernel_rfl) rfl rfl HF (fun _ _ _ h => h) (.inl ⟨by rfl, ?_⟩) (by first | assumption | rfl) ?_
  rotate_left
  · intro w hS; try subst hS
    go_simp; try with_reducible rfl
  try simp only [Act.put, List.setIfInBounds_toArray, List.set_cons_zero, List.set_cons_succ]
  refine AnyH.take (i := 11) (d := some 16) (v := ?_) (by kernel_rfl) rfl rfl HF (fun _ _ _ h => h) (.inl ⟨by rfl, ?_⟩) (by first | assumption | rfl) ?_
  rotate_left
  · intro w hS; try subst hS
    go_simp; try with_reducible rfl
  try simp only [Act.put, List.setIfInBounds_toArray, List.set_cons_zero, List.set_cons_succ]
  refine AnyH.one (i := 4) (by kernel_rfl) (by kernel_rfl) rfl HF (by rfl) (fun K hK => ?_)
  go_simp
  first | ((with_reducible refine And.intro ?hdep ?_); (case hdep => first | rfl | (intro h; cases h))) | skip
  refine callsIn_wide.2 ((mul_any w2 a.v b.s HA.out.1 HB.out.2).mono ?_)
  rintro e w ⟨rfl, h⟩; rw [h]; clear h w
  obtain ⟨x, hx⟩ : ∃ x, a.v * b.s % P = x := ⟨_, rfl⟩
  have HX := Lib.hid hx
  rw [hx]; clear hx
  refine hK _ _ S0 ?_
  clear hK K
  try simp only [Act.put, List.setIfInBounds_toArray, List.set_cons_zero, List.set_cons_succ]
  refine AnyH.one (i := 7) (by kernel_rfl) (by kernel_rfl) rfl HF (by rfl) (fun K hK => ?_)
  go_simp
  first | ((with_reducible refine And.intro ?hdep ?_); (case hdep => first | rfl | (intro h; cases h))) | skip
  refine callsIn_wide.2 ((add_any w2 x b.v (by rw [← HX.out]; exact HM.out _) HB.out.1).mono ?_)
  rintro e w ⟨rfl, h⟩; rw [h]; clear h w
  obtain ⟨y, hy⟩ : ∃ y, (x + b.v) % P = y := ⟨_, rfl⟩
  have HY := Lib.hid hy
  rw [hy]; clear hy
  refine hK _ _ S0 ?_
  clear hK K
  try simp only [Act.put, List.setIfInBounds_toArray, List.set_cons_zero, List.set_cons_succ]
  refine AnyH.one (i := 12) (by kernel_rfl) (by kernel_rfl) rfl HF (by rfl) (fun K hK => ?_)
  go_simp
  first | ((with_reducible refine And.intro ?hdep ?_); (case hdep => first | rfl | (intro h; cases h))) | skip
  refine callsIn_wide.2 ((mul_any w2 a.s b.s HA.out.2 HB.out.2).mono ?_)
  rintro e w ⟨rfl, h⟩; rw [h]; clear h w
  obtain ⟨z, hz⟩ : ∃ z, a.s * b.s % P = z := ⟨_, rfl⟩
  have HZ := Lib.hid hz
  rw [hz]; clear hz
  refine hK _ _ S0 ?_
  clear hK K
  try simp only [Act.put, List.setIfInBounds_toArray, List.set_cons_zero, List.set_cons_succ]
  refine AnyH.take (i := 13) (d := some 18) (v := ?_) (by kernel_rfl) rfl rfl HF (fun _ _ _ h => h) (.inl ⟨by rfl, ?_⟩) (by first | assumption | rfl) ?_
  rotate_left
  · intro w hS; try subst hS
    go_simp; try with_reducible rfl
  try simp only [Act.put, List.setIfInBounds_toArray, List.set_cons_zero, List.set_cons_succ]
  refine AnyH.tailL 14 (by kernel_rfl) ?_
  simp only [List.drop_succ_cons, List.drop_zero]
  have k3 := below_block S0 K3.out
  obtain ⟨⟨c0, c1⟩, f0, f1⟩ := DgC.cells k3
  obtain ⟨w3, hw3⟩ : ∃ w, (w2.setCell ⟨W.heap.size + 1 + 1, 0, none⟩ (.int .u64 y)).setCell ⟨W.heap.size + 1 + 1, 1, none⟩ (.int .u64 z) = w := ⟨_, rfl⟩
  have K4 : Hid (DgC w3 (W.heap.size + 1 + 1) ⟨y, z⟩) := Lib.hid (by rw [← hw3]; exact DgC.set k3 ⟨y, z⟩)
  have B4 : Hid (Below W.heap.size W w3) := Lib.hid (by
    rw [← hw3]
    exact ((Below.after B1.out S0).setCell (p := ⟨W.heap.size + 1 + 1, 0, none⟩) (by dsimp only; omega) _).setCell (p := ⟨W.heap.size + 1 + 1, 1, none⟩) (by dsimp only; omega) _)
  have HE : Hid (dgV (joinD a b) = .agg #[.int .u64 y, .int .u64 z]) := Lib.hid (by
    have h1 := HJ.out.1; have h2 := HJ.out.2
    rw [HX.out, HY.out] at h1
    rw [HZ.out] at h2
    unfold dgV
    rw [h1, h2])
  clear k3 S0 a0 a1 b0 b1' HX HY HZ HJ HM
  gi_wp2_with fail
  go_wp2_with fail
  obtain ⟨⟨c0, c1⟩, -⟩ := K4.out.cells
  exact bodyPost_ret (v := .agg #[.int .u64 y, .int .u64 z]) (by simp [results, Try.results87, go_sem, c0, c1]) rfl ⟨by rw [HE.out], B4.out⟩
theorem set_other {W : World} {g k i : Nat} {o : Obj} {v : Value} (hg : k ≠ g) (h : W.heap[k]? = some o) : (W.setCell ⟨g, i, none⟩ v).heap[k]? = some o := by
  rw [Below.heap_setCell _ _ _ _ hg]; exact h
/-- Digest's squaring. -/
theorem rep_half (u : List Nat) (k : Nat) : rep k u = rep (k % 2) u ++ rep (k / 2) (u ++ u) := by
  have e : u ++ u = rep 2 u := by rw [rep_succ, rep_one]
  rw [e, rep_mul, ← rep_add]
  congr 1
  omega
set_option maxRecDepth 100000 in
set_option maxHeartbeats 2000000 in
theorem drep_any (W : World) (t : List Nat) (k : Nat) (hk : k ≤ 9223372036854775807) : Calls Try.prog 74 #[.agg #[.int .u64 (dg t).v, .int .u64 (dg t).s], .int .i64 k] W fun e w' => e = .returned (dgV (dg (rep k t))) ∧ Below W.heap.size W w' := by
  obtain ⟨a, ha⟩ : ∃ a, dg t = a := ⟨_, rfl⟩
  rw [ha]
  obtain ⟨W1, hW1⟩ : ∃ w, (W.alloc (.cells #[.int .u64 a.v, .int .u64 a.s] 116)).alloc (.cells #[.int .u64 0, .int .u64 0] 116) = w := ⟨_, rfl⟩
  have k1 : DgC W1 W.heap.size a := by
    rw [← hW1]
    exact below_block ((Below.refl _ _).alloc (Nat.le_refl _) _) (heap_new' W _)
  have k2 : DgC W1 (W.heap.size + 1) ⟨0, 0⟩ := by
    rw [← hW1]
    have := heap_new' (W.alloc (.cells #[.int .u64 a.v, .int .u64 a.s] 116)) (.cells #[.int .u64 0, .int .u64 0] 116)
    rw [World.size_alloc] at this
    exact this
  have b1 : Below W.heap.size W W1 := by
    rw [← hW1]
    exact ((Below.refl _ W).alloc (Nat.le_refl _) _).alloc (by simp) _
  have K1 := Lib.hid k1; have K2 := Lib.hid k2; have B1 := Lib.hid b1; have HA := Lib.hid ha
  clear k1 k2 b1 ha
  go_enter Try.func74, Try.ntmps74
  go_wp2_with fail
  refine (dunit_any W1).mono ?_; rintro e w1 ⟨rfl, b2⟩
  have ev : dgV (dg []) = .agg #[.int .u64 0, .int .u64 1] := rfl
  rw [ev]
  clear ev hW1
  obtain ⟨g, hg⟩ : ∃ g, w1.heap.size = g := ⟨_, rfl⟩
  obtain ⟨W3, hW3⟩ : ∃ w, w1.alloc (.cells #[.int .u64 0, .int .u64 1] 116) = w := ⟨_, rfl⟩
  have HI : Hid (DgC W3 W.heap.size (dg t) ∧ DgC W3 (W.heap.size + 1) ⟨0, 0⟩ ∧ DgC W3 g (dg []) ∧ Below W.heap.size W W3 ∧ W.heap.size + 1 < g) := Lib.hid (by
    have h3 : Below w1.heap.size w1 W3 := by rw [← hW3]; exact (Below.refl _ _).alloc (Nat.le_refl _) _
    refine ⟨by rw [HA.out]; exact below_block h3 (below_block b2 K1.out), below_block h3 (below_block b2 K2.out), by rw [← hW3, ← hg]; exact heap_new' _ _, Below.after (Below.after B1.out b2) h3, ?_⟩
    have := (Array.getElem?_eq_some_iff.1 K2.out).1
    have := b2.size
    omega)
  have HLT := Lib.hid HI.out.2.2.2.2
  clear b2
  go_wp2_with fail
  try rw [hg]
  clear hg hW3 K1 K2 B1 HA
  go_loopw [1] (fun c wr => ∃ (j : Nat) (r u : List Nat), c = .int .i64 j ∧ j ≤ 9223372036854775807 ∧ DgC wr W.heap.size (dg u) ∧ DgC wr (W.heap.size + 1) ⟨0, 0⟩ ∧ DgC wr g (dg r) ∧ r ++ rep j u = rep k t ∧ Below W.heap.size W wr) (fun c _ => (intOf c).toNat)
  case atStart => exact ⟨k, [], t, rfl, hk, HI.out.1, HI.out.2.1, HI.out.2.2.1, rfl, HI.out.2.2.2.1⟩
  case round =>
    obtain ⟨j, r, u, rfl, hj, q1, q2, q3, hr, hb⟩ := hrel
    by_cases hj0 : 0 < j
    · have t1 : (0 : Int) < (j : Int) := by omega
      have hh := rep_half u j
      obtain ⟨d, hd⟩ : ∃ d, dg u = d := ⟨_, rfl⟩
      obtain ⟨s, hs⟩ : ∃ d, dg r = d := ⟨_, rfl⟩
      rw [hd] at q1; rw [hs] at q3
      have Hd : Hid d.ok := Lib.hid (by rw [← hd]; exact dg_ok _)
      have Hs : Hid s.ok := Lib.hid (by rw [← hs]; exact dg_ok _)
      have Hdd : Hid (dg (u ++ u) = joinD d d) := Lib.hid (by rw [dg_append, hd])
      have Hsd : Hid (dg (r ++ u) = joinD s d) := Lib.hid (by rw [dg_append, hs, hd])
      have Q1 := Lib.hid q1; have Q2 := Lib.hid q2; have Q3 := Lib.hid q3; have HB := Lib.hid hb; have HS := Lib.hid hs
      obtain ⟨⟨c0, c1⟩, f0, f1⟩ := q1.cells
      obtain ⟨⟨d0, d1⟩, e0, e1⟩ := q3.cells
      rcases Nat.mod_two_eq_zero_or_one j with hm | hm
      · have hmi : (j : Int) % 2 = 0 := by omega
        have HN : Hid (r ++ rep (j / 2) (u ++ u) = rep k t) := Lib.hid (by rw [← hr, hh, hm]; rfl)
        clear hh hr hm q1 q2 q3 hb hd hs d0 d1 e0 e1 HI
        go_wp2_with fail
        refine (djoin_any wr Hd.out Hd.out).mono ?_; rintro e w2 ⟨rfl, b2⟩
        obtain ⟨x, hx⟩ : ∃ x, joinD d d = x := ⟨_, rfl⟩
        have ev : dgV x = .agg #[.int .u64 x.v, .int .u64 x.s] := rfl
        have HX : Hid (dg (u ++ u) = x) := Lib.hid (by rw [Hdd.out, hx])
        rw [hx, ev]
        have k2 := below_block b2 Q1.out
        obtain ⟨⟨c0, c1⟩, f0, f1⟩ := DgC.cells k2
        obtain ⟨w3, hw3⟩ : ∃ w, (w2.setCell ⟨W.heap.size, 0, none⟩ (.int .u64 x.v)).setCell ⟨W.heap.size, 1, none⟩ (.int .u64 x.s) = w := ⟨_, rfl⟩
        have HE : Hid (DgC w3 W.heap.size (dg (u ++ u)) ∧ DgC w3 (W.heap.size + 1) ⟨0, 0⟩ ∧ DgC w3 g (dg r) ∧ Below W.heap.size W w3) := Lib.hid (by
          rw [← hw3, HX.out]
          refine ⟨DgC.set k2 x, ?_, ?_, ((Below.after HB.out b2).setCell (p := ⟨W.heap.size, 0, none⟩) (Nat.le_refl _) _).setCell (p := ⟨W.heap.size, 1, none⟩) (Nat.le_refl _) _⟩
          · exact set_other (by omega) (set_other (by omega) (below_block b2 Q2.out))
          · rw [HS.out]; exact set_other (by have := HLT.out; omega) (set_other (by have := HLT.out; omega) (below_block b2 Q3.out)))
        clear k2 b2 hx ev
        go_wp2_with fail
        go_roundw
        case rel => exact ⟨j / 2, r, u ++ u, by go_num, by omega, HE.out.1, HE.out.2.1, HE.out.2.2.1, HN.out, HE.out.2.2.2⟩
        case measure => simp [intOf]; omega
      · have hmi : (j : Int) % 2 = 1 := by omega
        have HN : Hid ((r ++ u) ++ rep (j / 2) (u ++ u) = rep k t) := Lib.hid (by rw [← hr, hh, hm, rep_one, List.append_assoc])
        clear hh hr hm q1 q2 q3 hb hd hs HI
        go_wp2_with fail
        refine (djoin_any wr Hs.out Hd.out).mono ?_; rintro e w2 ⟨rfl, b2⟩
        obtain ⟨y, hy⟩ : ∃ x, joinD s d = x := ⟨_, rfl⟩
        have ev : dgV y = .agg #[.int .u64 y.v, .int .u64 y.s] := rfl
        have HY : Hid (dg (r ++ u) = y) := Lib.hid (by rw [Hsd.out, hy])
        rw [hy, ev]
        have k3 := below_block b2 Q3.out
        obtain ⟨⟨d0, d1⟩, e0, e1⟩ := DgC.cells k3
        obtain ⟨w3, hw3⟩ : ∃ w, (w2.setCell ⟨g, 0, none⟩ (.int .u64 y.v)).setCell ⟨g, 1, none⟩ (.int .u64 y.s) = w := ⟨_, rfl⟩
        have HE : Hid (DgC w3 W.heap.size d ∧ DgC w3 (W.heap.size + 1) ⟨0, 0⟩ ∧ DgC w3 g y ∧ Below W.heap.size W w3) := Lib.hid (by
          rw [← hw3]
          refine ⟨?_, ?_, DgC.set k3 y, ((Below.after HB.out b2).setCell (p := ⟨g, 0, none⟩) (by have := HLT.out; dsimp only; omega) _).setCell (p := ⟨g, 1, none⟩) (by have := HLT.out; dsimp only; omega) _⟩
          · exact set_other (by have := HLT.out; omega) (set_other (by have := HLT.out; omega) (below_block b2 Q1.out))
          · exact set_other (by have := HLT.out; omega) (set_other (by have := HLT.out; omega) (below_block b2 Q2.out)))
        have q1 := HE.out.1
        obtain ⟨⟨c0, c1⟩, f0, f1⟩ := q1.cells
        clear k3 b2 hy ev q1
        go_wp2_with fail
        refine (djoin_any w3 Hd.out Hd.out).mono ?_; rintro e w4 ⟨rfl, b4⟩
        obtain ⟨x, hx⟩ : ∃ x, joinD d d = x := ⟨_, rfl⟩
        have ev : dgV x = .agg #[.int .u64 x.v, .int .u64 x.s] := rfl
        have HX : Hid (dg (u ++ u) = x) := Lib.hid (by rw [Hdd.out, hx])
        rw [hx, ev]
        have k4 := below_block b4 HE.out.1
        obtain ⟨⟨c0, c1⟩, f0, f1⟩ := DgC.cells k4
        obtain ⟨w5, hw5⟩ : ∃ w, (w4.setCell ⟨W.heap.size, 0, none⟩ (.int .u64 x.v)).setCell ⟨W.heap.size, 1, none⟩ (.int .u64 x.s) = w := ⟨_, rfl⟩
        have HE2 : Hid (DgC w5 W.heap.size (dg (u ++ u)) ∧ DgC w5 (W.heap.size + 1) ⟨0, 0⟩ ∧ DgC w5 g (dg (r ++ u)) ∧ Below W.heap.size W w5) := Lib.hid (by
          rw [← hw5, HX.out]
          refine ⟨DgC.set k4 x, ?_, ?_, ((Below.after HE.out.2.2.2 b4).setCell (p := ⟨W.heap.size, 0, none⟩) (Nat.le_refl _) _).setCell (p := ⟨W.heap.size, 1, none⟩) (Nat.le_refl _) _⟩
          · exact set_other (by omega) (set_other (by omega) (below_block b4 HE.out.2.1))
          · rw [HY.out]; exact set_other (by have := HLT.out; omega) (set_other (by have := HLT.out; omega) (below_block b4 HE.out.2.2.1)))
        clear k4 b4 hx ev hw3
        go_wp2_with fail
        go_roundw
        case rel => exact ⟨j / 2, r ++ u, u ++ u, by go_num, by omega, HE2.out.1, HE2.out.2.1, HE2.out.2.2.1, HN.out, HE2.out.2.2.2⟩
        case measure => simp [intOf]; omega
    · obtain rfl : j = 0 := by omega
      obtain ⟨d, hd⟩ : ∃ d, dg r = d := ⟨_, rfl⟩
      have HR : Hid (dg (rep k t) = d) := Lib.hid (by rw [← hr, rep_zero, List.append_nil, hd])
      rw [hd] at q3
      obtain ⟨⟨d0, d1⟩, -⟩ := q3.cells
      obtain ⟨⟨c0, c1⟩, f0, f1⟩ := q2.cells
      obtain ⟨w3, hw3⟩ : ∃ w, (wr.setCell ⟨W.heap.size + 1, 0, none⟩ (.int .u64 d.v)).setCell ⟨W.heap.size + 1, 1, none⟩ (.int .u64 d.s) = w := ⟨_, rfl⟩
      have HE : Hid (DgC w3 (W.heap.size + 1) d ∧ Below W.heap.size W w3) := Lib.hid (by
        rw [← hw3]
        exact ⟨DgC.set q2 d, (hb.setCell (p := ⟨W.heap.size + 1, 0, none⟩) (by dsimp only; omega) _).setCell (p := ⟨W.heap.size + 1, 1, none⟩) (by dsimp only; omega) _⟩)
      clear hr q1 q2 q3 hb hd
      go_wp2_with fail
      obtain ⟨⟨c0, c1⟩, -⟩ := HE.out.1.cells
      exact bodyPost_ret (v := .agg #[.int .u64 d.v, .int .u64 d.s]) (by simp [results, Try.results74, go_sem, c0, c1]) rfl ⟨by rw [HR.out], HE.out.2⟩
end M
end Go.Proofs.Ytplccefjljdjnaa
