/- CursorErrors: the walk. -/
import Derived.Test.YtjbllcakaljpgaaBegun
import Derived.Test.YtjbllcakaljpgaaCurErr
namespace Go.Proofs.Ytjbllcakaljpgaa
open Go.RowKit Go.Lib
namespace M
attribute [local go_sem] Oper.semAt_some
set_option maxRecDepth 100000 in
theorem num_err (W : World) (c : Int) : Calls Try.prog 65 #[err c] W fun e w' => e = .returned (.int .i64 c) ∧ w' = W := by
  have hta : ∀ w : World, (Instr.typeAssert (.iface 85 (.int .i64 c)) 35 85 true).run Try.prog w = .ok (.tuple #[.int .i64 c, .bool true]) w := fun _ => by kernel_rfl
  unfold err
  go_enter Try.func65, Try.ntmps65
  go_wp2_with fail
  go_ret
  exact ⟨rfl, rfl⟩
set_option maxRecDepth 100000 in
theorem is_err (W : World) (c k : Int) (hk : k ≠ 0) : Calls Try.prog 36 #[err c, .int .i64 k] W fun e w' => e = .returned (.bool (decide (c = k))) ∧ w' = W := by
  have hkb : (k != 0) = true := by simpa using hk
  by_cases h : c = k
  · subst h
    go_enter Try.func36, Try.ntmps36
    go_wp2_with fail
    refine (num_err W c).mono ?_; rintro e w1 ⟨rfl, rfl⟩
    go_wp2_with fail
    go_ret
    exact ⟨by simp, rfl⟩
  · have hb : (c == k) = false := by simpa using h
    go_enter Try.func36, Try.ntmps36
    go_wp2_with fail
    refine (num_err W c).mono ?_; rintro e w1 ⟨rfl, rfl⟩
    go_wp2_with fail
    go_ret
    exact ⟨by simp [h], rfl⟩
set_option maxRecDepth 100000 in
set_option maxHeartbeats 8000000 in
theorem errors_any (W : World) (id at' : Int) : Calls Try.prog 10 #[.int .i64 id, .int .i64 at'] W fun e w' => e = .returned (.bool true) ∧ Below W.heap.size W w' := by
  have hM : RowMk W (.slice none 0 0) [] := ⟨none, 0, rfl, by simp, by unfold maxLen; omega, by simp, fun i h => by cases h⟩
  have HG := Lib.hid (begun_any hM (by simp) 0)
  unfold BegunP at HG
  have e1 : (bldF [] [] [0]).1 = [] := rfl
  have e2 : resAt (bldF [] [] [0]).2 0 = 0 := rfl
  rw [e1, e2] at HG
  have e3 : (entAt [] 0).w.len = 0 := rfl
  rw [e3, show ((0 : Nat) : Int) = 0 from rfl] at HG
  clear hM e1 e2 e3
  by_cases h0 : id = 0
  · have i1 : (id != 0) = false := by simp [h0]
    have i2 : (id == 0) = true := by simp [h0]
    subst h0
    go_enter Try.func10, Try.ntmps10
    go_wp2_with fail
    refine HG.out.mono ?_
    rintro e w3 ⟨B, c, rfl, s3, k3, hc, b3⟩
    have S3 := Lib.hid s3; have B3 := Lib.hid b3
    clear s3 k3 hc b3 HG
    go_wp2_with fail
    refine (cnew_none w3 _).mono ?_; rintro e w4 ⟨rfl, b4⟩
    have B4 := Lib.hid (Below.after B3.out b4); have S4 := Lib.hid (S3.out.below b4)
    clear b4
    go_wp2_with fail
    have HN := Lib.hid (cnew_any S4.out (i := 0) (by simp) (by simp))
    rw [show (entAt [] 0).w.len = 0 from rfl, show ((0 : Nat) : Int) = 0 from rfl] at HN
    refine HN.out.mono ?_
    rintro e w5 ⟨c5, rfl, hc5, k5, b5⟩
    have B5 := Lib.hid (Below.after B4.out b5)
    have HL := Lib.hid (length_any k5)
    rw [show ((0 : Nat) : Int) = 0 from rfl] at HL
    clear b5 hc5 k5 HN
    go_wp2_with fail
    refine (is_err _ 5 5 (by decide)).mono ?_; rintro e w ⟨rfl, h⟩; rw [h]; clear h w
    go_wp2_with fail
    refine HL.out.mono ?_; rintro e w ⟨rfl, h⟩; rw [h]; clear h w
    go_wp2_with fail
    refine (nilc_next _).mono ?_; rintro e w6 ⟨rfl, b6⟩
    have B6 := Lib.hid (Below.after B5.out b6)
    clear b6
    go_wp2_with fail
    refine (nilc_prev _).mono ?_; rintro e w ⟨rfl, h⟩; rw [h]; clear h w
    go_wp2_with fail
    refine (nilc_peek _).mono ?_; rintro e w7 ⟨rfl, b7⟩
    have B7 := Lib.hid (Below.after B6.out b7)
    clear b7
    go_wp2_with fail
    refine (nilc_line _).mono ?_; rintro e w ⟨rfl, h⟩; rw [h]; clear h w
    go_wp2_with fail
    refine (nilc_nextl _).mono ?_; rintro e w ⟨rfl, h⟩; rw [h]; clear h w
    go_wp2_with fail
    refine (nilc_prevl _).mono ?_; rintro e w ⟨rfl, h⟩; rw [h]; clear h w
    go_wp2_with fail
    refine (nilc_copy _).mono ?_; rintro e w ⟨rfl, h⟩; rw [h]; clear h w
    go_wp2_with fail
    refine (nilc_seek _ at').mono ?_; rintro e w ⟨rfl, h⟩; rw [h]; clear h w
    go_wp2_with fail
    refine (is_err _ 5 5 (by decide)).mono ?_; rintro e w ⟨rfl, h⟩; rw [h]; clear h w
    go_wp2_with fail
    refine (nilc_skip _ at').mono ?_; rintro e w ⟨rfl, h⟩; rw [h]; clear h w
    go_wp2_with fail
    refine (nilc_read _ at').mono ?_; rintro e w ⟨rfl, h⟩; rw [h]; clear h w
    go_wp2_with fail
    refine (nilc_off _).mono ?_; rintro e w ⟨rfl, h⟩; rw [h]; clear h w
    go_wp2_with fail
    refine (nilc_len _).mono ?_; rintro e w ⟨rfl, h⟩; rw [h]; clear h w
    go_wp2_with fail
    refine (nilc_left _).mono ?_; rintro e w ⟨rfl, h⟩; rw [h]; clear h w
    go_wp2_with fail
    go_ret
    exact ⟨rfl, B7.out⟩
  · have i1 : (id != 0) = true := by simp [h0]
    have i2 : (id == 0) = false := by simp [h0]
    go_enter Try.func10, Try.ntmps10
    go_wp2_with fail
    refine HG.out.mono ?_
    rintro e w3 ⟨B, c, rfl, s3, k3, hc, b3⟩
    have S3 := Lib.hid s3; have B3 := Lib.hid b3
    clear s3 k3 hc b3 HG
    go_wp2_with fail
    refine (cnew_none w3 _).mono ?_; rintro e w4 ⟨rfl, b4⟩
    have B4 := Lib.hid (Below.after B3.out b4); have S4 := Lib.hid (S3.out.below b4)
    clear b4
    go_wp2_with fail
    refine (cnew_miss S4.out (i := id) (by simp; omega)).mono ?_; rintro e w5 ⟨rfl, b5⟩
    have B5 := Lib.hid (Below.after B4.out b5)
    clear b5
    go_wp2_with fail
    refine (is_err _ 5 5 (by decide)).mono ?_; rintro e w ⟨rfl, h⟩; rw [h]; clear h w
    go_wp2_with fail
    refine (is_err _ 1 1 (by decide)).mono ?_; rintro e w ⟨rfl, h⟩; rw [h]; clear h w
    go_wp2_with fail
    refine (nilc_next _).mono ?_; rintro e w6 ⟨rfl, b6⟩
    have B6 := Lib.hid (Below.after B5.out b6)
    clear b6
    go_wp2_with fail
    refine (nilc_prev _).mono ?_; rintro e w ⟨rfl, h⟩; rw [h]; clear h w
    go_wp2_with fail
    refine (nilc_peek _).mono ?_; rintro e w7 ⟨rfl, b7⟩
    have B7 := Lib.hid (Below.after B6.out b7)
    clear b7
    go_wp2_with fail
    refine (nilc_line _).mono ?_; rintro e w ⟨rfl, h⟩; rw [h]; clear h w
    go_wp2_with fail
    refine (nilc_nextl _).mono ?_; rintro e w ⟨rfl, h⟩; rw [h]; clear h w
    go_wp2_with fail
    refine (nilc_prevl _).mono ?_; rintro e w ⟨rfl, h⟩; rw [h]; clear h w
    go_wp2_with fail
    refine (nilc_copy _).mono ?_; rintro e w ⟨rfl, h⟩; rw [h]; clear h w
    go_wp2_with fail
    refine (nilc_seek _ at').mono ?_; rintro e w ⟨rfl, h⟩; rw [h]; clear h w
    go_wp2_with fail
    refine (is_err _ 5 5 (by decide)).mono ?_; rintro e w ⟨rfl, h⟩; rw [h]; clear h w
    go_wp2_with fail
    refine (nilc_skip _ at').mono ?_; rintro e w ⟨rfl, h⟩; rw [h]; clear h w
    go_wp2_with fail
    refine (nilc_read _ at').mono ?_; rintro e w ⟨rfl, h⟩; rw [h]; clear h w
    go_wp2_with fail
    refine (nilc_off _).mono ?_; rintro e w ⟨rfl, h⟩; rw [h]; clear h w
    go_wp2_with fail
    refine (nilc_len _).mono ?_; rintro e w ⟨rfl, h⟩; rw [h]; clear h w
    go_wp2_with fail
    refine (nilc_left _).mono ?_; rintro e w ⟨rfl, h⟩; rw [h]; clear h w
    go_wp2_with fail
    go_ret
    exact ⟨rfl, B7.out⟩
end M
end Go.Proofs.Ytjbllcakaljpgaa
