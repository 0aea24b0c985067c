/- The store of rules: Pair and Power for whatever numbers are there; what they keep. -/
import Derived.Test.YtpjcfepngjpfbaaStorePower
import Derived.Test.YtpjcfepngjpfbaaStoreNew
namespace Go.Proofs.Ytpjcfepngjpfbaa
open Go.RowKit
namespace M
attribute [local go_sem] Oper.semAt_some
set_option maxRecDepth 100000 in
set_option maxHeartbeats 1000000 in
theorem pair_any {n0 B most : Nat} {W : World} {E : List En} (h : StAt n0 W B most E) (hwf : Wf E) {l r : Nat} (hl : l ≤ E.length) (hr : r ≤ E.length) (hroom : E.length < most) (hE : E.length ≤ 1048575) :
    Calls Try.prog 42 #[.pointer (some ⟨B, 0, none⟩), .int .i64 l, .int .i64 r] W fun x w' => x = .returned (.tuple #[.int .i64 (pairF E l r).2.1, errV (pairF E l r).2.2]) ∧ StAt n0 w' B most (pairF E l r).1 ∧ Below n0 W w' ∧ Kt W w' := by
  by_cases hl0 : l = 0
  · have e : pairF E l r = (E, r, 0) := by unfold pairF; rw [if_pos hl0]
    rw [e]
    have HK1 := Lib.hid (known_any h (l : Int)); have HK2 := Lib.hid (known_any h (r : Int))
    rw [decide_eq_true (show 0 ≤ (l : Int) ∧ (l : Int) ≤ (E.length : Int) by omega)] at HK1
    rw [decide_eq_true (show 0 ≤ (r : Int) ∧ (r : Int) ≤ (E.length : Int) by omega)] at HK2
    have l0 : ((l : Int) == 0) = true := by simp [hl0]
    have H := Lib.hid h
    clear h hwf hl0 hl hr hroom hE e
    go_enter Try.func42, Try.ntmps42
    go_wp2_with fail
    refine HK1.out.mono ?_; rintro x w ⟨rfl, h⟩; rw [h]; clear h w
    go_wp2_with fail
    refine HK2.out.mono ?_; rintro x w ⟨rfl, h⟩; rw [h]; clear h w
    go_wp2_with fail
    go_ret2
    exact ⟨rfl, H.out, Below.refl _ _, Kt.of (Below.refl _ _)⟩
  · by_cases hr0 : r = 0
    · have e : pairF E l r = (E, l, 0) := by unfold pairF; rw [if_neg hl0, if_pos hr0]
      rw [e]
      have HK1 := Lib.hid (known_any h (l : Int)); have HK2 := Lib.hid (known_any h (r : Int))
      rw [decide_eq_true (show 0 ≤ (l : Int) ∧ (l : Int) ≤ (E.length : Int) by omega)] at HK1
      rw [decide_eq_true (show 0 ≤ (r : Int) ∧ (r : Int) ≤ (E.length : Int) by omega)] at HK2
      have l0 : ((l : Int) == 0) = false := by simp; omega
      have r0 : ((r : Int) == 0) = true := by simp [hr0]
      have H := Lib.hid h
      clear h hwf hl0 hl hr hroom hE e hr0
      go_enter Try.func42, Try.ntmps42
      go_wp2_with fail
      refine HK1.out.mono ?_; rintro x w ⟨rfl, h⟩; rw [h]; clear h w
      go_wp2_with fail
      refine HK2.out.mono ?_; rintro x w ⟨rfl, h⟩; rw [h]; clear h w
      go_wp2_with fail
      go_ret2
      exact ⟨rfl, H.out, Below.refl _ _, Kt.of (Below.refl _ _)⟩
    · exact pair_some h hwf (by omega) (by omega) hl hr hroom hE
set_option maxRecDepth 100000 in
set_option maxHeartbeats 1000000 in
theorem power_any {n0 B most : Nat} {W : World} {E : List En} (h : StAt n0 W B most E) (hwf : Wf E) {l k : Nat} (hl : l ≤ E.length) (hk : k ≤ 9223372036854775807) (hroom : E.length < most) (hE : E.length ≤ 1048575) :
    Calls Try.prog 34 #[.pointer (some ⟨B, 0, none⟩), .int .i64 l, .int .i64 k] W fun x w' => x = .returned (.tuple #[.int .i64 (powF E l k).2.1, errV (powF E l k).2.2]) ∧ StAt n0 w' B most (powF E l k).1 ∧ Below n0 W w' ∧ Kt W w' := by
  have kn : ¬ ((k : Int) < 0) := by omega
  have HK1 := Lib.hid (known_any h (l : Int))
  rw [decide_eq_true (show 0 ≤ (l : Int) ∧ (l : Int) ≤ (E.length : Int) by omega)] at HK1
  have H := Lib.hid h
  by_cases h0 : k = 0 ∨ l = 0
  · have e : powF E l k = (E, 0, 0) := by unfold powF; rw [if_pos h0]
    rw [e]
    rcases h0 with h0 | h0
    · have k0 : ((k : Int) == 0) = true := by simp [h0]
      clear h hwf h0 hl hroom hE e hk
      go_enter Try.func34, Try.ntmps34
      go_wp2_with fail
      refine HK1.out.mono ?_; rintro x w ⟨rfl, h⟩; rw [h]; clear h w
      go_wp2_with fail
      go_ret2
      exact ⟨rfl, H.out, Below.refl _ _, Kt.of (Below.refl _ _)⟩
    · have l0 : ((l : Int) == 0) = true := by simp [h0]
      clear h hwf h0 hl hroom hE e hk
      go_enter Try.func34, Try.ntmps34
      go_wp2_with fail
      refine HK1.out.mono ?_; rintro x w ⟨rfl, h⟩; rw [h]; clear h w
      go_wp2_with fail
      all_goals
        go_ret2
        exact ⟨rfl, H.out, Below.refl _ _, Kt.of (Below.refl _ _)⟩
  · by_cases h1 : k = 1
    · have e : powF E l k = (E, l, 0) := by unfold powF; rw [if_neg h0, if_pos h1]
      rw [e]
      have l0 : ((l : Int) == 0) = false := by simp; omega
      have k0 : ((k : Int) == 0) = false := by simp; omega
      have k1 : ((k : Int) == 1) = true := by simp [h1]
      clear h hwf h0 hl hroom hE e hk h1
      go_enter Try.func34, Try.ntmps34
      go_wp2_with fail
      refine HK1.out.mono ?_; rintro x w ⟨rfl, h⟩; rw [h]; clear h w
      go_wp2_with fail
      go_ret2
      exact ⟨rfl, H.out, Below.refl _ _, Kt.of (Below.refl _ _)⟩
    · exact power_some h hwf (by omega) hl (by omega) hk hroom hE
end M
end Go.Proofs.Ytpjcfepngjpfbaa
