/- rule.Refs, rule.place, rule.Check of rules that fit. -/
import Derived.Test.YtpjcfepngjpfbaaR11
import Derived.Test.YtpjcfepngjpfbaaCom
set_option linter.unusedVariables false
set_option linter.unusedSimpArgs false
namespace Go.Proofs.Ytpjcfepngjpfbaa
open Go.RowKit Go.Lib
namespace M
attribute [local go_sem] Oper.semAt_some
set_option maxRecDepth 100000 in
set_option maxHeartbeats 2000000 in
theorem refs99_any (W : World) {r : RuI} {n : Nat} (hok : OkI r n) : Calls Try.prog 99 #[ruIV r] W fun e w' => ∃ v l, e = .returned v ∧ IdW W.heap.size w' v l ∧ (∀ x ∈ l, 1 ≤ x ∧ x < n) ∧ l.length ≤ 2 ∧ Below W.heap.size W w' := by
  obtain ⟨w1, hw1, b1, c0, c1, c2, c3, c4⟩ := newRuI W r
  have HB := Lib.hid b1
  rcases hok with ⟨k1, -⟩ | ⟨k1, -, -, ⟨l1, l2⟩, r1, r2⟩ | ⟨k1, -, -, t2, l1, l2⟩
  · have kb2 : (r.kind == 2) = false := by simp [k1]
    have kb3 : (r.kind == 3) = false := by simp [k1]
    clear k1 b1
    unfold ruIV
    go_enter Try.func99, Try.ntmps99
    go_wp2_with fail
    go_ret
    exact ⟨_, [], rfl, SlA.nil _ _ _ _ _, by simp, by simp, HB.out⟩
  · have kb2 : (r.kind == 2) = true := by simp [k1]
    obtain ⟨l, hl⟩ : ∃ l : Nat, r.left = l := ⟨r.left.toNat, by omega⟩
    obtain ⟨rr, hrr⟩ : ∃ l : Nat, r.right = l := ⟨r.right.toNat, by omega⟩
    obtain ⟨w2, hw2⟩ : ∃ w, w1.alloc (.cells #[.int .i64 r.left, .int .i64 r.right] 31) = w := ⟨_, rfl⟩
    have s2 : IdW w1.heap.size w2 (.slice (some ⟨w1.heap.size, 0, none⟩) 2 2) [l, rr] := by rw [← hw2, hl, hrr]; exact SlA.lit (l := [l, rr]) encI_len rfl (by simp; unfold maxLen; omega)
    have b2 : Below w1.heap.size w1 w2 := by rw [← hw2]; exact (Below.refl _ _).alloc (Nat.le_refl _) _
    have HX := Lib.hid (SlA.mono s2 b1.size); have HB2 := Lib.hid (Below.after b1 b2)
    have HLR : Hid ((1 ≤ l ∧ l < n) ∧ 1 ≤ rr ∧ rr < n) := Lib.hid (by omega)
    clear k1 b1 s2 b2 l1 l2 r1 r2 hl hrr
    unfold ruIV
    go_enter Try.func99, Try.ntmps99
    go_wp2_with fail
    go_ret
    exact ⟨_, [l, rr], rfl, HX.out, by simp; exact HLR.out, by simp, HB2.out⟩
  · have kb2 : (r.kind == 2) = false := by simp [k1]
    have kb3 : (r.kind == 3) = true := by simp [k1]
    obtain ⟨l, hl⟩ : ∃ l : Nat, r.left = l := ⟨r.left.toNat, by omega⟩
    obtain ⟨w2, hw2⟩ : ∃ w, w1.alloc (.cells #[.int .i64 r.left] 31) = w := ⟨_, rfl⟩
    have s2 : IdW w1.heap.size w2 (.slice (some ⟨w1.heap.size, 0, none⟩) 1 1) [l] := by rw [← hw2, hl]; exact SlA.lit (l := [l]) encI_len rfl (by simp; unfold maxLen; omega)
    have b2 : Below w1.heap.size w1 w2 := by rw [← hw2]; exact (Below.refl _ _).alloc (Nat.le_refl _) _
    have HX := Lib.hid (SlA.mono s2 b1.size); have HB2 := Lib.hid (Below.after b1 b2)
    have HLR : Hid (1 ≤ l ∧ l < n) := Lib.hid (by omega)
    clear k1 b1 s2 b2 l1 l2 hl t2
    unfold ruIV
    go_enter Try.func99, Try.ntmps99
    go_wp2_with fail
    go_ret
    exact ⟨_, [l], rfl, HX.out, by simp; exact HLR.out, by simp, HB2.out⟩
set_option maxRecDepth 100000 in
set_option maxHeartbeats 2000000 in
theorem place_any (W : World) {r : RuI} {n : Nat} (hn : 1 ≤ n) (hnb : n ≤ 1152921504606846976) (hok : OkI r n) : Calls Try.prog 89 #[ruIV r, .int .i64 n] W fun e w' => e = .returned .nilIface ∧ Below W.heap.size W w' := by
  obtain ⟨w1, hw1, b1, c0, c1, c2, c3, c4⟩ := newRuI W r
  have HB := Lib.hid b1
  have HRF := Lib.hid (refs99_any w1 hok)
  have n1 : ¬ (n : Int) < 1 := by omega
  have n2 : ¬ n < 1 := by omega
  have n3 : ¬ n = 0 := by omega
  have hnw : IntKind.i64.wrap ((n : Int) - 1) = (n : Int) - 1 := by rw [IntKind.wrap_i64]; omega
  have HNB := Lib.hid hn
  clear b1 hok hnb
  unfold ruIV
  unfold ruIV at HRF
  go_enter Try.func89, Try.ntmps89
  go_wp2_with fail
  refine HRF.out.mono ?_; rintro e w2 ⟨v, l, rfl, hv, hlr, hl2, b2⟩
  obtain ⟨va, vc, rfl⟩ := hv.len
  obtain ⟨m, hm⟩ : ∃ m, l.length = m := ⟨_, rfl⟩
  have HV := Lib.hid hv; have HLR := Lib.hid hlr; have HM := Lib.hid hm; have HB2 := Lib.hid (Below.after HB.out b2)
  rw [hm] at HV hl2 ⊢
  clear hv hlr hm b2 HRF c0 c1 c2 c3 c4 hw1
  go_wp2_with fail
  go_loopw [13] (fun iv wr => ∃ i : Nat, iv = .int .i64 i ∧ i ≤ m ∧ wr = w2) (fun iv _ => m - (intOf iv).toNat)
  case atStart => exact ⟨0, rfl, by omega, rfl⟩
  case round =>
    obtain ⟨i, rfl, hi, hw⟩ := hrel
    rw [hw]
    clear hw wr
    by_cases hlast : i = m
    · have d1 : ¬ (i : Int) < (m : Int) := by omega
      clear hlast
      go_wp2_with fail
      go_ret
      exact ⟨rfl, HB2.out⟩
    · have d1 : (i : Int) < (m : Int) := by omega
      have hil : i < l.length := by rw [HM.out]; omega
      obtain ⟨gv, rfl⟩ : ∃ gv, va = some ⟨gv, 0, none⟩ := by
        rcases HV.out.shape with ⟨-, h⟩ | ⟨g, c, h, -⟩
        · rw [h] at hil; simp at hil
        · simp only [Value.slice.injEq] at h; exact ⟨g, h.1⟩
      obtain ⟨x, hx⟩ : ∃ x, l[i]'hil = x := ⟨_, rfl⟩
      have q0 : w2.cell? ⟨gv, i, none⟩ = some (.int .i64 x) := by
        have h := SlA.cell encI_len HV.out hil (j := 0) (by omega)
        rw [hx, Nat.mul_one, Nat.add_zero] at h
        exact h
      have hxb := HLR.out x (by rw [← hx]; exact List.getElem_mem _)
      have e1 : ¬ (x : Int) < 1 := by omega
      have e2 : ¬ (n : Int) - 1 < (x : Int) := by omega
      have e2' : decide ((n : Int) - 1 < (x : Int)) = false := decide_eq_false e2
      have e3 : ¬ x < 1 := by omega
      have e4 : ¬ x = 0 := by omega
      have hiw : IntKind.i64.wrap ((i : Int) + 1) = ((i + 1 : Nat) : Int) := by rw [IntKind.wrap_i64]; omega
      obtain ⟨i2, hi2⟩ : ∃ y, i + 1 = y := ⟨_, rfl⟩
      rw [hi2] at hiw
      have HI2 : Hid (i + 1 = i2 ∧ i < m) := Lib.hid ⟨hi2, by omega⟩
      clear hlast hil hx hxb hi2
      go_wp2_with fail
      go_roundw
      case rel => exact ⟨i2, rfl, by have := HI2.out; omega, by trivial⟩
      case measure => have := HI2.out; simp [intOf]; omega
set_option maxRecDepth 100000 in
set_option maxHeartbeats 2000000 in
theorem rulecheck_any (W : World) {r : RuI} {n : Nat} (hn : 1 ≤ n) (hnb : n ≤ 1152921504606846976) (hok : OkI r n) : Calls Try.prog 66 #[ruIV r, .int .i64 n] W fun e w' => e = .returned .nilIface ∧ Below W.heap.size W w' := by
  obtain ⟨w1, hw1, b1, c0, c1, c2, c3, c4⟩ := newRuI W r
  have HB := Lib.hid b1
  have HPL := Lib.hid (place_any w1 hn hnb hok)
  unfold ruIV at HPL ⊢
  rcases hok with ⟨k1, a1, a2, a3⟩ | ⟨k1, a1, a2, -⟩ | ⟨k1, a1, a2, a3, -⟩
  · have kb1 : (r.kind == 1) = true := by simp [k1]
    have f1 : (r.left == 0) = true := by simp [a1]
    have f2 : (r.right == 0) = true := by simp [a2]
    have f3 : (r.times == 0) = true := by simp [a3]
    clear k1 a1 a2 a3 b1 hn hnb
    go_enter Try.func66, Try.ntmps66
    go_wp2_with fail
    refine HPL.out.mono ?_; rintro e w2 ⟨rfl, b2⟩
    have HB2 := Lib.hid (Below.after HB.out b2)
    clear b2
    go_wp2_with fail
    go_ret
    exact ⟨rfl, HB2.out⟩
  · have kb1 : (r.kind == 1) = false := by simp [k1]
    have kb2 : (r.kind == 2) = true := by simp [k1]
    have f1 : ((r.letter : Int) == 0) = true := by simp [a1]
    have f3 : (r.times == 0) = true := by simp [a2]
    clear k1 a1 a2 b1 hn hnb
    go_enter Try.func66, Try.ntmps66
    go_wp2_with fail
    refine HPL.out.mono ?_; rintro e w2 ⟨rfl, b2⟩
    have HB2 := Lib.hid (Below.after HB.out b2)
    clear b2
    go_wp2_with fail
    go_ret
    exact ⟨rfl, HB2.out⟩
  · have kb1 : (r.kind == 1) = false := by simp [k1]
    have kb2 : (r.kind == 2) = false := by simp [k1]
    have kb3 : (r.kind == 3) = true := by simp [k1]
    have f1 : ((r.letter : Int) == 0) = true := by simp [a1]
    have f3 : (r.right == 0) = true := by simp [a2]
    have f4 : (2 : Int) ≤ r.times := a3
    have f5 : r.times ≥ 2 := a3
    clear k1 a1 a2 b1 hn hnb
    go_enter Try.func66, Try.ntmps66
    go_wp2_with fail
    refine HPL.out.mono ?_; rintro e w2 ⟨rfl, b2⟩
    have HB2 := Lib.hid (Below.after HB.out b2)
    clear b2
    go_wp2_with fail
    go_ret
    exact ⟨rfl, HB2.out⟩
end M
end Go.Proofs.Ytpjcfepngjpfbaa
