/- law17's offset. -/
import Derived.Test.YtpjcfepngjpfbaaLast
namespace Go.Proofs.Ytpjcfepngjpfbaa
open Go.RowKit Go.Lib
namespace M
attribute [local go_sem] Oper.semAt_some
theorem mask61 (x : Int) : ∃ m : Nat, bits .and .i64 x 2305843009213693951 = (m : Int) ∧ m ≤ 2305843009213693951 := by
  have h : (BitVec.ofInt 64 x &&& BitVec.ofInt 64 2305843009213693951).toNat ≤ 2305843009213693951 := by
    rw [BitVec.toNat_and]
    exact Nat.le_trans Nat.and_le_right (by decide)
  have e : bits .and .i64 x 2305843009213693951 = IntKind.i64.wrap ((BitVec.ofInt 64 x &&& BitVec.ofInt 64 2305843009213693951).toNat : Int) := rfl
  generalize (BitVec.ofInt 64 x &&& BitVec.ofInt 64 2305843009213693951).toNat = m at h e
  refine ⟨m, ?_, h⟩
  rw [e, IntKind.wrap_i64]
  omega
set_option maxRecDepth 100000 in
set_option maxHeartbeats 1000000 in
theorem offset_any (W : World) (x : Int) {n : Nat} (hn : n ≤ 1152921504606846976) : Calls Try.prog 15 #[.int .i64 x, .int .i64 n] W fun e w' => ∃ k : Nat, e = .returned (.int .i64 k) ∧ k ≤ n ∧ w' = W := by
  have hnw : IntKind.i64.wrap ((n : Int) + 1) = ((n + 1 : Nat) : Int) := by rw [IntKind.wrap_i64]; omega
  obtain ⟨m, hm⟩ : ∃ m, n + 1 = m := ⟨_, rfl⟩
  rw [hm] at hnw
  have hm0 : ¬ (m : Int) = 0 := by omega
  have hm1 : ((m : Int) == 0) = false := by simp; omega
  have hm2 : ¬ m = 0 := by omega
  obtain ⟨q, hq, hq2⟩ := mask61 (x / 8)
  have ht : Int.tmod (q : Int) (m : Int) = ((q % m : Nat) : Int) := rfl
  obtain ⟨k, hk⟩ : ∃ k, q % m = k := ⟨_, rfl⟩
  have hkm : k < m := by rw [← hk]; exact Nat.mod_lt _ (by omega)
  have hkw : IntKind.i64.wrap (k : Int) = (k : Int) := by rw [IntKind.wrap_i64]; omega
  rw [hk] at ht
  clear hk
  go_enter Try.func15, Try.ntmps15
  go_wp2_with fail
  go_ret
  exact ⟨k, rfl, by omega, rfl⟩
end M
end Go.Proofs.Ytpjcfepngjpfbaa
