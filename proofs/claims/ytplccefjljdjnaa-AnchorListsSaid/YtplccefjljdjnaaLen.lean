/- Lengths: Valid, Add, Mul, Range, Clip. -/
import Derived.Test.YtplccefjljdjnaaModular
import Derived.Outline
namespace Go.Proofs.Ytplccefjljdjnaa
open Go.RowKit Go.Lib
namespace M
attribute [local go_sem] Oper.semAt_some
def err (c : Int) : Value := .iface 54 (.int .i64 c)
def errV (c : Int) : Value := if c = 0 then .nilIface else err c
theorem errV_0 : errV 0 = .nilIface := rfl
/-- The greatest length. -/
abbrev mx : Nat := 1152921504606846976
set_option maxRecDepth 100000 in
theorem valid_any (W : World) (n : Int) : Calls Try.prog 67 #[.int .i64 n] W fun e w' => e = .returned (.bool (decide (0 ≤ n ∧ n ≤ 1152921504606846976))) ∧ w' = W := by
  by_cases h1 : 0 ≤ n
  · by_cases h2 : n ≤ 1152921504606846976
    · have e : decide (0 ≤ n ∧ n ≤ 1152921504606846976) = true := decide_eq_true ⟨h1, h2⟩
      rw [e]
      go_enter Try.func67, Try.ntmps67
      go_wp2_with fail
      go_ret
      exact ⟨rfl, rfl⟩
    · have e : decide (0 ≤ n ∧ n ≤ 1152921504606846976) = false := decide_eq_false (fun h => h2 h.2)
      rw [e]
      go_enter Try.func67, Try.ntmps67
      go_wp2_with fail
      go_ret
      exact ⟨rfl, rfl⟩
  · have e : decide (0 ≤ n ∧ n ≤ 1152921504606846976) = false := decide_eq_false (fun h => h1 h.1)
    rw [e]
    go_enter Try.func67, Try.ntmps67
    go_wp2_with fail
    go_ret
    exact ⟨rfl, rfl⟩
theorem valid_yes (W : World) {n : Nat} (h : n ≤ 1152921504606846976) : Calls Try.prog 67 #[.int .i64 n] W fun e w' => e = .returned (.bool true) ∧ w' = W := by
  refine (valid_any W n).mono fun e w h' => ⟨?_, h'.2⟩
  rw [h'.1, decide_eq_true (by constructor <;> omega)]
set_option maxRecDepth 100000 in
theorem add1_any (W : World) {a b : Nat} (ha : a ≤ 1152921504606846976) (hb : b ≤ 1152921504606846976) : Calls Try.prog 46 #[.int .i64 a, .int .i64 b] W fun e w' => e = .returned (if a + b ≤ 1152921504606846976 then .tuple #[.int .i64 ((a + b : Nat) : Int), .nilIface] else .tuple #[.int .i64 0, err 2]) ∧ w' = W := by
  have hw : IntKind.i64.wrap (1152921504606846976 - (b : Int)) = 1152921504606846976 - (b : Int) := by rw [IntKind.wrap_i64]; omega
  have hw2 : IntKind.i64.wrap ((a : Int) + (b : Int)) = (a : Int) + (b : Int) := by rw [IntKind.wrap_i64]; omega
  by_cases h : a + b ≤ 1152921504606846976
  all_goals
    first | (have t : ¬ ((a : Int) > 1152921504606846976 - (b : Int)) := by omega) | (have t : (a : Int) > 1152921504606846976 - (b : Int) := by omega)
    first | rw [if_pos h] | rw [if_neg h]
    clear h
    go_enter Try.func46, Try.ntmps46
    go_wp2_with fail
    refine (valid_yes W ha).mono ?_; rintro e w1 ⟨rfl, h⟩; rw [h]; clear h w1
    go_wp2_with fail
    refine (valid_yes W hb).mono ?_; rintro e w1 ⟨rfl, h⟩; rw [h]; clear h w1
    go_wp2_with fail
    go_ret2
    first | exact ⟨rfl, rfl⟩ | exact ⟨by simp, rfl⟩
set_option maxRecDepth 100000 in
theorem mul1_any (W : World) {a k : Nat} (ha : a ≤ 1152921504606846976) (h0 : 0 < a) (hk : k ≤ 9223372036854775807) : Calls Try.prog 55 #[.int .i64 a, .int .i64 k] W fun e w' => e = .returned (if a * k ≤ 1152921504606846976 then .tuple #[.int .i64 ((a * k : Nat) : Int), .nilIface] else .tuple #[.int .i64 0, err 2]) ∧ w' = W := by
  obtain ⟨q, hq⟩ : ∃ q, 1152921504606846976 / a = q := ⟨_, rfl⟩
  have hqq : Int.tdiv 1152921504606846976 (a : Int) = (q : Int) := by rw [← hq]; rfl
  have hiff : k ≤ q ↔ a * k ≤ 1152921504606846976 := by rw [← hq, Nat.le_div_iff_mul_le h0, Nat.mul_comm]
  have hq2 : q ≤ 1152921504606846976 := by rw [← hq]; exact Nat.div_le_self _ _
  have z0 : ¬ ((a : Int) = 0) := by omega
  have z1 : ((a : Int) == 0) = false := by simpa using z0
  have hwq : IntKind.i64.wrap (q : Int) = (q : Int) := by rw [IntKind.wrap_i64]; omega
  have k0 : ¬ ((k : Int) < 0) := by omega
  have ee : (a : Int) * (k : Int) = ((a * k : Nat) : Int) := (Int.natCast_mul a k).symm
  by_cases h : a * k ≤ 1152921504606846976
  all_goals
    first | (have t : ¬ ((k : Int) > (q : Int)) := by have := hiff.2 h; omega) | (have t : (k : Int) > (q : Int) := by have := fun x => h (hiff.1 x); omega)
    first | (have hw2 : IntKind.i64.wrap ((a : Int) * (k : Int)) = (a : Int) * (k : Int) := by rw [IntKind.wrap_i64, ee]; omega) | skip
    first | rw [if_pos h] | rw [if_neg h]
    clear h hiff hq ee
    go_enter Try.func55, Try.ntmps55
    go_wp2_with fail
    refine (valid_yes W ha).mono ?_; rintro e w1 ⟨rfl, h⟩; rw [h]; clear h w1
    go_wp2_with fail
    go_ret2
    first | exact ⟨rfl, rfl⟩ | exact ⟨by simp, rfl⟩
set_option maxRecDepth 100000 in
theorem clip_any (W : World) (n l h : Int) : Calls Try.prog 40 #[.int .i64 n, .int .i64 l, .int .i64 h] W fun e w' => e = .returned (.int .i64 (if n < l then l else if n > h then h else n)) ∧ w' = W := by
  by_cases h1 : n < l
  · rw [if_pos h1]
    go_enter Try.func40, Try.ntmps40
    go_wp2_with fail
    go_ret
    exact ⟨rfl, rfl⟩
  · rw [if_neg h1]
    by_cases h2 : n > h
    · rw [if_pos h2]
      go_enter Try.func40, Try.ntmps40
      go_wp2_with fail
      go_ret
      exact ⟨rfl, rfl⟩
    · rw [if_neg h2]
      go_enter Try.func40, Try.ntmps40
      go_wp2_with fail
      go_ret
      exact ⟨rfl, rfl⟩
end M
end Go.Proofs.Ytplccefjljdjnaa
