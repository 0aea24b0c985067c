/- A transaction: check, see, Get, Put, Drop. -/
import Derived.Test.YtlfodhejpbjfcaaSess0
namespace Go.Proofs.Ytlfodhejpbjfcaa
open Go.RowKit
namespace S
attribute [local go_sem] Oper.semAt_some

/-- An error of package api. -/
def err (c : Int) : Value := .iface 60 (.int .i64 c)
def okName (s : ByteArray) : Prop := 1 ≤ s.size ∧ s.size ≤ 32
instance (s : ByteArray) : Decidable (okName s) := by unfold okName; exact inferInstance
/-- What check answers. -/
def chk (done : Bool) (s : ByteArray) : Int := if done then 7 else if okName s then 0 else 13
def errV (c : Int) : Value := if c = 0 then .nilIface else err c

set_option maxRecDepth 100000 in
set_option maxHeartbeats 1000000 in
theorem check_any {W : World} {t b r c : Nat} {n : Int} {q : Option Addr} {d : Bool} (h : TxnC W t b n q r c d) (s : ByteArray) (hs : s.size ≤ 9223372036854775807) :
    Calls Try.prog 43 #[.pointer (some ⟨t, 0, none⟩), .string s] W fun e w' => e = .returned (errV (chk d s)) ∧ w' = W := by
  obtain ⟨c0, -, -, -, -, c5, -⟩ := h.cells
  clear h
  cases d with
  | true =>
    go_enter Try.func43, Try.ntmps43
    go_wp2_with fail
    go_ret
    exact ⟨rfl, rfl⟩
  | false =>
    go_enter Try.func43, Try.ntmps43
    go_wp2_with fail
    refine (valid_any W s hs).mono ?_; rintro e w1 ⟨rfl, rfl⟩
    by_cases hk : 1 ≤ s.size ∧ s.size ≤ 32
    · have hd : decide (1 ≤ s.size ∧ s.size ≤ 32) = true := decide_eq_true hk
      rw [hd]
      go_wp2_with fail
      go_ret
      refine ⟨?_, rfl⟩
      have : chk false s = 0 := by simp [chk, okName, hk]
      rw [this]; rfl
    · have hd : decide (1 ≤ s.size ∧ s.size ≤ 32) = false := decide_eq_false hk
      rw [hd]
      go_wp2_with fail
      go_ret
      refine ⟨?_, rfl⟩
      have : chk false s = 13 := by simp [chk, okName, hk]
      rw [this]; rfl
set_option maxRecDepth 100000 in
theorem nil_check (W : World) (s : ByteArray) :
    Calls Try.prog 43 #[.pointer none, .string s] W fun e w' => e = .returned (err 5) ∧ w' = W := by
  go_enter Try.func43, Try.ntmps43
  go_wp2_with fail
  go_ret
  exact ⟨rfl, rfl⟩
set_option maxRecDepth 100000 in
theorem nil_get (W : World) (s : ByteArray) :
    Calls Try.prog 17 #[.pointer none, .string s] W fun e w' => e = .returned (.tuple #[.int .i64 0, err 5]) ∧ w' = W := by
  go_enter Try.func17, Try.ntmps17
  go_wp2_with fail
  refine (nil_check W s).mono ?_; rintro e w1 ⟨rfl, rfl⟩
  unfold err
  go_wp2_with fail
  go_ret2
  exact ⟨rfl, rfl⟩
set_option maxRecDepth 100000 in
theorem nil_put (W : World) (s : ByteArray) (x : Int) :
    Calls Try.prog 24 #[.pointer none, .string s, .int .i64 x] W fun e w' => e = .returned (err 5) ∧ w' = W := by
  go_enter Try.func24, Try.ntmps24
  go_wp2_with fail
  refine (nil_check W s).mono ?_; rintro e w1 ⟨rfl, rfl⟩
  unfold err
  go_wp2_with fail
  go_ret
  exact ⟨rfl, rfl⟩
set_option maxRecDepth 100000 in
theorem nil_drop (W : World) (s : ByteArray) :
    Calls Try.prog 25 #[.pointer none, .string s] W fun e w' => e = .returned (err 5) ∧ w' = W := by
  go_enter Try.func25, Try.ntmps25
  go_wp2_with fail
  refine (nil_check W s).mono ?_; rintro e w1 ⟨rfl, rfl⟩
  unfold err
  go_wp2_with fail
  go_ret
  exact ⟨rfl, rfl⟩
end S
end Go.Proofs.Ytlfodhejpbjfcaa
