/- The keys of numbers are in the order of the numbers. -/
import Derived.Test.YtdgclambplipnaaKeys
import Derived.Laws.BitsAllLaws
namespace Go.Proofs.Ytdgclambplipnaa
open Go.RowKit

theorem nat_xor_top_lt {m : Nat} (h : m < 2 ^ 63) : m ^^^ 2 ^ 63 = 2 ^ 63 + m := by
  refine Nat.eq_of_testBit_eq fun i => ?_
  rw [Nat.testBit_xor, Nat.testBit_two_pow]
  rcases Nat.lt_trichotomy i 63 with hi | hi | hi
  · rw [Nat.testBit_two_pow_add_gt hi]
    simp [show ¬ 63 = i by omega]
  · subst hi
    rw [Nat.testBit_two_pow_add_eq]
    simp
  · have h1 : m.testBit i = false := Nat.testBit_lt_two_pow (Nat.lt_of_lt_of_le h (Nat.pow_le_pow_right (by decide) (by omega)))
    have h2 : (2 ^ 63 + m).testBit i = false := Nat.testBit_lt_two_pow (Nat.lt_of_lt_of_le (show 2 ^ 63 + m < 2 ^ 64 by omega) (Nat.pow_le_pow_right (by decide) (by omega)))
    rw [h1, h2]
    simp [show ¬ 63 = i by omega]
theorem nat_xor_top_ge {m : Nat} (h : 2 ^ 63 ≤ m) (h2 : m < 2 ^ 64) : m ^^^ 2 ^ 63 = m - 2 ^ 63 := by
  obtain ⟨r, rfl⟩ : ∃ r, m = 2 ^ 63 + r := ⟨m - 2 ^ 63, by omega⟩
  rw [← nat_xor_top_lt (m := r) (by omega), Nat.xor_assoc, Nat.xor_self, Nat.xor_zero, nat_xor_top_lt (m := r) (by omega)]
  omega
theorem bits_top (n : Int) (h0 : -9223372036854775808 ≤ n) (h1 : n ≤ 9223372036854775807) : bits .xor .u64 (IntKind.u64.wrap n) 9223372036854775808 = n + 9223372036854775808 := by
  have e : IntKind.u64.wrap n = n % 18446744073709551616 := by simp [IntKind.wrap, IntKind.bits, IntKind.signed]
  rw [e, u64_xor _ _ (by omega) (by omega) (by omega) (by omega)]
  have e2 : (9223372036854775808 : Int).toNat = 2 ^ 63 := by decide
  rw [e2]
  by_cases hn : 0 ≤ n
  · rw [nat_xor_top_lt (by omega)]; omega
  · rw [nat_xor_top_ge (by omega) (by omega)]; omega

set_option maxHeartbeats 800000 in
theorem int_any (n : Int) (h0 : -9223372036854775808 ≤ n) (h1 : n ≤ 9223372036854775807) (W : World) : Calls Try.prog 17 #[.int .i64 n] W fun e w' => e = .returned (.string (wordB (n + 9223372036854775808))) ∧ Below W.heap.size W w' := by
  have hb := bits_top n h0 h1
  have HB := Lib.hid hb; clear hb
  have HW := Lib.hid (word_any (n + 9223372036854775808) (by omega) (by omega) W)
  clear h0 h1
  go_enter Try.func17, Try.ntmps17
  go_wp2_with fail
  rw [HB.out]
  refine HW.out.mono ?_; rintro e w' ⟨rfl, hB⟩
  go_wp2_with fail
  go_ret
  exact ⟨rfl, hB⟩
theorem itself_any (s : ByteArray) (W : World) : Calls Try.prog 23 #[.string s] W fun e w' => e = .returned (.string s) ∧ Below W.heap.size W w' := by
  go_enter Try.func23, Try.ntmps23
  go_wp2
  go_ret
  exact ⟨rfl, Below.refl _ _⟩

/-! ### The order of the bytes -/
def beL : Nat → Int → List Int
  | 0, _ => []
  | k + 1, n => n / 2 ^ (8 * k) % 256 :: beL k n
theorem wordL_eq (n : Int) : wordL n = beL 8 n := rfl
def u8s (l : List Int) : List UInt8 := l.map fun n => UInt8.ofNat n.toNat
theorem wordB_toList (n : Int) : (wordB n).toList = u8s (beL 8 n) := by
  rw [ByteArray.toList_eq]; exact strOfNums_data _

theorem pow8_pos (k : Nat) : (0 : Int) < 2 ^ (8 * k) := Int.pow_pos (by decide)
theorem pow8_succ (k : Nat) : (2 : Int) ^ (8 * (k + 1)) = 256 * 2 ^ (8 * k) := by
  rw [show 8 * (k + 1) = 8 * k + 8 by omega, Int.pow_add]; omega
/-- Only what is below counts. -/
theorem beL_add (k : Nat) : ∀ (n q : Int), beL k (n + q * 2 ^ (8 * k)) = beL k n := by
  induction k with
  | zero => intro n q; rfl
  | succ k ih =>
    intro n q
    have hp := pow8_pos k
    have e : n + q * 2 ^ (8 * (k + 1)) = n + (q * 256) * 2 ^ (8 * k) := by rw [pow8_succ, Int.mul_assoc]
    simp only [beL]
    rw [e, ih, Int.add_mul_ediv_right _ _ (by omega)]
    congr 1
    omega
theorem u8_lt {a b : Int} (ha : 0 ≤ a) (ha2 : a < 256) (hb : 0 ≤ b) (hb2 : b < 256) : (UInt8.ofNat a.toNat < UInt8.ofNat b.toNat) ↔ a < b := by
  rw [UInt8.lt_iff_toNat_lt]
  simp only [UInt8.toNat_ofNat']
  omega
theorem u8_eq {a b : Int} (ha : 0 ≤ a) (ha2 : a < 256) (hb : 0 ≤ b) (hb2 : b < 256) : (UInt8.ofNat a.toNat == UInt8.ofNat b.toNat) = decide (a = b) := by
  rw [Bool.eq_iff_iff]
  simp only [beq_iff_eq, decide_eq_true_eq]
  constructor
  · intro h
    have := congrArg UInt8.toNat h
    simp only [UInt8.toNat_ofNat'] at this
    omega
  · rintro rfl; rfl
theorem beL_less (k : Nat) : ∀ (a b : Int), 0 ≤ a → a < 2 ^ (8 * k) → 0 ≤ b → b < 2 ^ (8 * k) → Op.bytesLess (u8s (beL k a)) (u8s (beL k b)) = decide (a < b) := by
  induction k with
  | zero => intro a b h1 h2 h3 h4; simp at h2 h4; simp [u8s, beL, Op.bytesLess]; omega
  | succ k ih =>
    intro a b h1 h2 h3 h4
    have hp := pow8_pos k
    rw [pow8_succ] at h2 h4
    generalize hB : (2 : Int) ^ (8 * k) = B at *
    obtain ⟨qa, ra, ea, qa0, ra0, ra1⟩ : ∃ q r, a = r + q * B ∧ 0 ≤ q ∧ 0 ≤ r ∧ r < B := ⟨a / B, a % B, by have := Int.emod_add_mul_ediv a B; rw [Int.mul_comm (a / B)]; omega, Int.ediv_nonneg h1 (by omega), Int.emod_nonneg _ (by omega), Int.emod_lt_of_pos _ hp⟩
    obtain ⟨qb, rb, eb, qb0, rb0, rb1⟩ : ∃ q r, b = r + q * B ∧ 0 ≤ q ∧ 0 ≤ r ∧ r < B := ⟨b / B, b % B, by have := Int.emod_add_mul_ediv b B; rw [Int.mul_comm (b / B)]; omega, Int.ediv_nonneg h3 (by omega), Int.emod_nonneg _ (by omega), Int.emod_lt_of_pos _ hp⟩
    have hqa : qa < 256 := by
      have : qa * B < 256 * B := by omega
      exact Int.lt_of_mul_lt_mul_right this (by omega)
    have hqb : qb < 256 := by
      have : qb * B < 256 * B := by omega
      exact Int.lt_of_mul_lt_mul_right this (by omega)
    have da : a / B = qa := by rw [ea, Int.add_mul_ediv_right _ _ (by omega), Int.ediv_eq_zero_of_lt ra0 ra1]; omega
    have db : b / B = qb := by rw [eb, Int.add_mul_ediv_right _ _ (by omega), Int.ediv_eq_zero_of_lt rb0 rb1]; omega
    have la : beL k a = beL k ra := by rw [ea, ← hB]; exact beL_add k ra qa
    have lb : beL k b = beL k rb := by rw [eb, ← hB]; exact beL_add k rb qb
    have ih' := ih ra rb ra0 ra1 rb0 rb1
    simp only [beL, hB, da, db, la, lb, u8s, List.map_cons, Op.bytesLess] at ih' ⊢
    rw [ih', u8_eq (by omega) (by omega) (by omega) (by omega)]
    have hm1 : qa % 256 = qa := by omega
    have hm2 : qb % 256 = qb := by omega
    rw [hm1, hm2]
    rw [Bool.eq_iff_iff]
    simp only [Bool.or_eq_true, Bool.and_eq_true, decide_eq_true_eq, u8_lt qa0 hqa qb0 hqb]
    subst ea eb
    rcases Int.lt_trichotomy qa qb with h | h | h
    · have : (qa + 1) * B ≤ qb * B := Int.mul_le_mul_of_nonneg_right (by omega) (by omega)
      rw [Int.add_mul] at this
      constructor
      · intro _; omega
      · intro _; exact .inl h
    · subst h
      constructor
      · rintro (h | h)
        · omega
        · omega
      · intro h; exact .inr ⟨rfl, by omega⟩
    · have : (qb + 1) * B ≤ qa * B := Int.mul_le_mul_of_nonneg_right (by omega) (by omega)
      rw [Int.add_mul] at this
      constructor
      · rintro (h' | h') <;> omega
      · intro h'; omega
theorem word_less {a b : Int} (h1 : 0 ≤ a) (h2 : a < 18446744073709551616) (h3 : 0 ≤ b) (h4 : b < 18446744073709551616) : Op.bytesLess (wordB a).toList (wordB b).toList = decide (a < b) := by
  rw [wordB_toList, wordB_toList]
  exact beL_less 8 a b h1 (by omega) h3 (by omega)
theorem bytesLess_irrefl : ∀ l : List UInt8, Op.bytesLess l l = false
  | [] => rfl
  | a :: l => by simp [Op.bytesLess, bytesLess_irrefl l]
theorem word_eq {a b : Int} (h1 : 0 ≤ a) (h2 : a < 18446744073709551616) (h3 : 0 ≤ b) (h4 : b < 18446744073709551616) : ((wordB a).toList == (wordB b).toList) = decide (a = b) := by
  rw [Bool.eq_iff_iff]
  simp only [beq_iff_eq, decide_eq_true_eq]
  constructor
  · intro h
    have x := word_less h1 h2 h3 h4; have y := word_less h3 h4 h1 h2
    rw [h, bytesLess_irrefl] at x
    rw [h, bytesLess_irrefl] at y
    simp at x y
    omega
  · rintro rfl; rfl
end Go.Proofs.Ytdgclambplipnaa
