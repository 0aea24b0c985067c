/- MonoidShifts: the walk. -/
import Derived.Test.YtpgnhnimndagpaaAwakeM
import Derived.Test.YtpgnhnimndagpaaWinA
namespace Go.Proofs.Ytpgnhnimndagpaa
open Go.RowKit
namespace A
attribute [local go_sem] Oper.semAt_some

theorem winF_two {L : List Int} {i : Nat} (h : i + 1 < L.length) : winF addI 0 L 2 i = addI (L[i]'(by omega)) L[i + 1] := by
  unfold winF
  rw [show i + 2 = i + 1 + 1 by omega, seg_snoc (by omega) h, seg_one (by omega)]
theorem winF_one {L : List Int} {i : Nat} (h : i < L.length) : winF addI 0 L 1 i = L[i] := seg_one h
theorem seg_tail {L : List Int} {a b : Nat} : seg addI 0 L.tail a b = seg addI 0 L (a + 1) (b + 1) := by
  unfold seg
  rw [show b + 1 - (a + 1) = b - a by omega]
  cases L <;> simp
theorem win_list {W : World} {v : Value} {L : List Int} (hL : RowAt (Value.int .i64) W v L) (hn : L.length ≤ 1000000) {n : Nat} (h1 : 1 ≤ n) :
    Calls Try.prog 18 #[.agg #[], v, .int .i64 n] W fun e w' => ∃ (A : List Int) (a : Option Addr) (c : Nat), e = .returned (.slice a A.length c) ∧ RowAt (Value.int .i64) w' (.slice a A.length c) A ∧ A.length = L.length + 1 - n ∧ (∀ (i : Nat) (h : i < A.length), A[i] = winF addI 0 L n i) ∧ Below W.heap.size W w' := by
  by_cases h2 : n ≤ L.length
  · refine (win_any hL hn h1 h2 addI_assoc (fun _ _ _ _ _ _ => True.intro)).mono fun e w ⟨r, he, hr, hb⟩ => ?_
    have hr2 := hr
    obtain ⟨a, c, rfl, -⟩ := hr
    exact ⟨_, a, c, he, hr2, by simp; omega, fun i h => by simp, hb⟩
  · refine (win_none hL hn (n := n) (by omega)).mono fun e w ⟨he, hb⟩ => ⟨[], none, 0, he, ⟨none, 0, rfl, by simp, by unfold maxLen; omega, fun i hi => by simp at hi⟩, by simp; omega, fun i h => by simp at h, hb⟩
theorem _root_.Go.Proofs.Ytpgnhnimndagpaa.RowAt.drop1 {α : Type} {ev : α → Value} {W : World} {b : Addr} {n cap : Nat} {L : List α} (h : RowAt ev W (.slice (some b) n cap) L) : RowAt ev W (.slice (some ⟨b.block, b.off + 1, none⟩) (n - 1) (cap - 1)) L.tail := by
  obtain ⟨a, c, e, h1, h2, h⟩ := h
  simp only [Value.slice.injEq] at e
  obtain ⟨rfl, hn, rfl⟩ := e
  refine ⟨_, _, by rw [List.length_tail, ← hn], by rw [List.length_tail]; omega, by omega, fun i hi => ⟨_, rfl, ?_⟩⟩
  have hi' : i + 1 < L.length := by rw [List.length_tail] at hi; omega
  obtain ⟨b', e, m⟩ := h (i + 1) hi'
  cases e
  rw [addr_add] at m
  have e2 : (⟨b.block, b.off + 1, none⟩ : Addr).add i = ⟨b.block, b.off + (i + 1), none⟩ := by unfold Addr.add; split <;> simp_all <;> omega
  rw [e2, m]
  simp
theorem _root_.Go.Proofs.Ytpgnhnimndagpaa.RowAt.drop1' {α : Type} {ev : α → Value} {W : World} {b : Addr} {n : Nat} {L : List α} (h : RowAt ev W (.slice (some b) n 1) L) : RowAt ev W (.slice (some b) (n - 1) 0) L.tail := by
  obtain ⟨a, c, e, h1, h2, h⟩ := h
  simp only [Value.slice.injEq] at e
  obtain ⟨-, hn, rfl⟩ := e
  refine ⟨_, _, by rw [List.length_tail, ← hn], by rw [List.length_tail]; omega, by unfold maxLen; omega, fun i hi => ?_⟩
  rw [List.length_tail] at hi; omega

set_option maxRecDepth 100000 in
set_option maxHeartbeats 4000000 in
theorem shifts_any {W : World} {v : Value} {L : List Int} (hL : RowAt (Value.int .i64) W v L) (n : Int) (hn0 : 0 ≤ n) (hn1 : n < 256) :
    Calls Try.prog 5 #[v, .int .u8 n] W fun e w' => e = .returned (.bool true) ∧ Below W.heap.size W w' := by
  have HF : ∀ f, Fence.wide.fn f := fun _ => trivial
  have H := Lib.hid hL
  obtain ⟨a, cap, rfl, hc1, hc2, -⟩ := hL
  have hc3 := hc2
  unfold maxLen at hc2
  by_cases hlen : L.length = 0 ∨ 500 < L.length
  · by_cases h0 : L.length = 0
    · have h0i : (L.length : Int) = 0 := by omega
      have h0b : ((L.length : Int) == 0) = true := by simpa using h0i
      rw [h0] at *
      clear hlen h0 h0b
      go_enter Try.func5, Try.ntmps5
      go_wp2_with fail
      refine (awake_any W).mono ?_; rintro e w1 ⟨rfl, b1⟩
      have HB1 := Lib.hid b1; clear b1
      go_wp2_with fail
      refine (awake_any w1).mono ?_; rintro e w2 ⟨rfl, b2⟩
      have HB2 := Lib.hid (Below.step HB1.out b2); clear b2
      go_wp2_with fail
      go_ret
      exact ⟨rfl, HB2.out⟩
    · have h1 : 500 < L.length := by omega
      have h1i : (500 : Int) < (L.length : Int) := by omega
      have h0i : ¬ (L.length : Int) = 0 := by omega
      have h0b : ((L.length : Int) == 0) = false := by simpa using h0i
      clear hlen
      go_enter Try.func5, Try.ntmps5
      go_wp2_with fail
      refine (awake_any W).mono ?_; rintro e w1 ⟨rfl, b1⟩
      have HB1 := Lib.hid b1; clear b1
      go_wp2_with fail
      refine (awake_any w1).mono ?_; rintro e w2 ⟨rfl, b2⟩
      have HB2 := Lib.hid (Below.step HB1.out b2); clear b2
      go_wp2_with fail
      go_ret
      exact ⟨rfl, HB2.out⟩
  · have h1i : ¬ (500 : Int) < (L.length : Int) := by omega
    have h1d : decide ((500 : Int) < (L.length : Int)) = false := decide_eq_false h1i
    have h0i : ¬ (L.length : Int) = 0 := by omega
    have h0b : ((L.length : Int) == 0) = false := by simpa using h0i
    have hl500 : L.length ≤ 500 := by omega
    have HL := Lib.hid hl500
    obtain ⟨K, hK⟩ : ∃ K : Nat, 1 + n % (L.length : Int) = (K : Int) := ⟨(1 + n % (L.length : Int)).toNat, by have := Int.emod_nonneg n h0i; omega⟩
    have hK1 : 1 ≤ K := by have := Int.emod_nonneg n h0i; omega
    have hK2 : K ≤ L.length := by have := Int.emod_lt_of_pos n (show (0 : Int) < (L.length : Int) by omega); omega
    obtain ⟨b, hb⟩ : ∃ b, a = some b := by
      obtain ⟨b, c, e, -⟩ := H.out.at (i := 0) (by omega)
      simp only [Value.slice.injEq] at e
      exact ⟨b, e.1⟩
    subst hb
    have hn63 : n % (L.length : Int) < 1000 := by have := Int.emod_lt_of_pos n (show (0 : Int) < (L.length : Int) by omega); omega
    have hn62 : 0 ≤ n % (L.length : Int) := Int.emod_nonneg n h0i
    clear hlen
    go_enter Try.func5, Try.ntmps5
    go_wp2_with fail
    refine (awake_any W).mono ?_; rintro e w1 ⟨rfl, b1⟩
    have HB1 := Lib.hid b1; have H1 := Lib.hid (H.out.below b1); clear b1
    go_wp2_with fail
    refine (win_list (n := K) H1.out (by have := HL.out; omega) hK1).mono ?_
    rintro e w2 ⟨A2, a2, c2, rfl, hr, hA, hAi, b2⟩
    have HB2 := Lib.hid (Below.step HB1.out b2); have H2 := Lib.hid (H1.out.below b2); have HR2 := Lib.hid hr; have HA2 := Lib.hid hAi
    have hq1 : ((A2.length : Int) != (L.length : Int) - (K : Int) + 1) = false := by simp; omega
    have hq2 : (1 : Int) ≤ (A2.length : Int) := by omega
    have hq7 : (A2.length : Int) ≤ 1000 := by omega
    have hq3 : A2.length = L.length + 1 - K := hA
    have HQ3 := Lib.hid hq3
    clear b2 hr hA hAi hq3
    go_wp2_with fail
    all_goals
      first | (have hx : cap = 1 := by assumption
               subst hx) | skip
      refine (win_list (n := K) (L := L.tail) (by first | exact H2.out.drop1 | exact H2.out.drop1') (by rw [List.length_tail]; have := HL.out; omega) hK1).mono ?_
      rintro e w3 ⟨A3, a3, c3, rfl, hr, hA, hAi, b3⟩
      have HB3 := Lib.hid (Below.step HB2.out b3); have H3 := Lib.hid (H2.out.below b3); have HR3 := Lib.hid hr; have HR23 := Lib.hid (HR2.out.below b3); have HA3 := Lib.hid hAi
      have hq4 : A3.length = A2.length - 1 := by rw [hA, List.length_tail, HQ3.out]; omega
      have hq5 : ((A3.length : Int) != (A2.length : Int) - 1) = false := by simp; omega
      have hq6 : ¬ ((A2.length : Int) - 1 < 0) := by omega
      have hq8 : ¬ ((A2.length : Int) < 1) := by omega
      have HQ4 := Lib.hid hq4
      clear b3 hr hA hAi hq4
      go_wp2_with fail
    all_goals
      go_loopw [59] (fun c wr => ∃ j : Nat, j ≤ A3.length ∧ c = .int .i64 j ∧ Below w3.heap.size w3 wr) (fun c _ => A3.length - (intOf c).toNat)
      case atStart => exact ⟨0, by omega, rfl, Below.refl _ _⟩
      case round =>
        obtain ⟨j, hj, rfl, hB⟩ := hrel
        have HB := Lib.hid hB; clear hB
        have HLS := HL.out
        have h31 : A3.length ≤ 1000 := by rw [HQ4.out]; omega
        by_cases hlt : j < A3.length
        · have hl3 : (j : Int) < (A3.length : Int) := by omega
          have hl4 : (0 : Int) ≤ (j : Int) := by omega
          have hj2 : j + 1 < A2.length := by rw [HQ4.out] at hlt; omega
          have hl5 : (j : Int) + 1 < (A2.length : Int) := by omega
          have hl6 : (0 : Int) ≤ (j : Int) + 1 := by omega
          obtain ⟨b3, e3, hb3, m3⟩ := HR3.out.at hlt
          obtain ⟨b2, e2, hb2, m2⟩ := HR23.out.at hj2
          simp only [Value.slice.injEq] at hb3 hb2
          obtain ⟨rfl, -, rfl⟩ := hb3
          obtain ⟨rfl, -, rfl⟩ := hb2
          have hv : A3[j] = A2[j + 1] := by
            rw [HA3.out, HA2.out]
            unfold winF
            rw [seg_tail, show j + K + 1 = j + 1 + K by omega]
          rw [addr_add] at m2
          rw [hv] at m3
          have hw1 : IntKind.i64.wrap ((j : Int) + 1) = (j : Int) + 1 := wrap_in (by omega) (by omega)
          have HW1 := Lib.hid hw1
          clear hv hw1
          generalize A2[j + 1] = x at m2 m3
          go_wp2_with fail
          have B0 : Below w3.heap.size w3 wr.drew := HB.out.drew
          have hw1 := HW1.out
          refine wp_region_anyH (Below w3.heap.size w3) (by kernel_rfl) ?_
          refine AnyH.take (i := 0) (d := some 62) (v := ?_) (by kernel_rfl) rfl rfl HF (fun _ _ _ h => h) (.inl ⟨by rfl, ?_⟩) (by first | assumption | rfl) ?_
          rotate_left
          · intro w hS; try subst hS
            go_simp; try with_reducible rfl
          try simp only [Act.put, List.setIfInBounds_toArray, List.set_cons_zero, List.set_cons_succ]
          refine AnyH.take (i := 1) (d := some 63) (v := ?_) (by kernel_rfl) rfl rfl HF (fun _ _ _ h => h) (.inl ⟨by rfl, ?_⟩) (by first | assumption | rfl) ?_
          rotate_left
          · intro w hS; try subst hS
            go_simp; try with_reducible rfl
          try simp only [Act.put, List.setIfInBounds_toArray, List.set_cons_zero, List.set_cons_succ]
          refine AnyH.take (i := 2) (d := some 64) (v := ?_) (by kernel_rfl) rfl rfl HF (fun _ _ _ h => h) (.inl ⟨by rfl, ?_⟩) (by first | assumption | rfl) ?_
          rotate_left
          · intro w hS; try subst hS
            go_simp; try with_reducible rfl
          try simp only [Act.put, List.setIfInBounds_toArray, List.set_cons_zero, List.set_cons_succ]
          refine AnyH.take (i := 3) (d := some 65) (v := ?_) (by kernel_rfl) rfl rfl HF (fun _ _ _ h => h) (.inl ⟨by rfl, ?_⟩) (by first | assumption | rfl) ?_
          rotate_left
          · intro w hS; try subst hS
            go_simp; try with_reducible rfl
          try simp only [Act.put, List.setIfInBounds_toArray, List.set_cons_zero, List.set_cons_succ]
          refine AnyH.take (i := 4) (d := some 66) (v := ?_) (by kernel_rfl) rfl rfl HF (fun _ _ _ h => h) (.inl ⟨by rfl, ?_⟩) (by first | assumption | rfl) ?_
          rotate_left
          · intro w hS; try subst hS
            go_simp; try with_reducible rfl
          try simp only [Act.put, List.setIfInBounds_toArray, List.set_cons_zero, List.set_cons_succ]
          refine AnyH.take (i := 5) (d := some 67) (v := ?_) (by kernel_rfl) rfl rfl HF (fun _ _ _ h => h) (.inl ⟨by rfl, ?_⟩) (by first | assumption | rfl) ?_
          rotate_left
          · intro w hS; try subst hS
            go_simp; try with_reducible rfl
          try simp only [Act.put, List.setIfInBounds_toArray, List.set_cons_zero, List.set_cons_succ]
          refine AnyH.take (i := 6) (d := some 68) (v := ?_) (by kernel_rfl) rfl rfl HF (fun _ _ _ h => h) (.inl ⟨by rfl, ?_⟩) (by first | assumption | rfl) ?_
          rotate_left
          · intro w hS; try subst hS
            go_simp; try with_reducible rfl
          try simp only [Act.put, List.setIfInBounds_toArray, List.set_cons_zero, List.set_cons_succ]
          refine AnyH.take (i := 7) (d := some 69) (v := ?_) (by kernel_rfl) rfl rfl HF (fun _ _ _ h => h) (.inl ⟨by rfl, ?_⟩) (by first | assumption | rfl) ?_
          rotate_left
          · intro w hS; try subst hS
            go_simp; try with_reducible rfl
          try simp only [Act.put, List.setIfInBounds_toArray, List.set_cons_zero, List.set_cons_succ]
          refine AnyH.take (i := 8) (d := some 70) (v := ?_) (by kernel_rfl) rfl rfl HF (fun _ _ _ h => h) (.inl ⟨by rfl, ?_⟩) (by first | assumption | rfl) ?_
          rotate_left
          · intro w hS; try subst hS
            go_simp; try with_reducible rfl
          try simp only [Act.put, List.setIfInBounds_toArray, List.set_cons_zero, List.set_cons_succ]
          refine AnyH.take (i := 9) (d := some 71) (v := ?_) (by kernel_rfl) rfl rfl HF (fun _ _ _ h => h) (.inl ⟨by rfl, ?_⟩) (by first | assumption | rfl) ?_
          rotate_left
          · intro w hS; try subst hS
            go_simp; try with_reducible rfl
          try simp only [Act.put, List.setIfInBounds_toArray, List.set_cons_zero, List.set_cons_succ]
          refine AnyH.done (by kernel_rfl) ?_
          clear hw1
          go_wp2_with fail
          go_roundw
          case rel => exact ⟨j + 1, by omega, by go_num, B0⟩
          case measure => simp [intOf]; omega
        · obtain rfl : j = A3.length := by omega
          have HB4 := Lib.hid (Below.step HB3.out HB.out); have H4 := Lib.hid (H3.out.below HB.out)
          clear hq1 hq2 hq7 hq5 hq6 hq8 hlt h31
          go_wp2_with fail
          refine (win_list (n := 2) H4.out (by have := HL.out; omega) (by omega)).mono ?_
          rintro e w5 ⟨A4, a4, c4, rfl, hr, hA, hAi, b5⟩
          have HB5 := Lib.hid (Below.step HB4.out b5); have H5 := Lib.hid (H4.out.below b5); have HR5 := Lib.hid hr; have HA5 := Lib.hid hAi; have HQ5 := Lib.hid hA
          clear b5 hr hAi
          by_cases hl2 : L.length < 2
          · have hl2i : (L.length : Int) < 2 := by omega
            have hq9 : ((A4.length : Int) == 0) = true := by rw [beq_iff_eq]; omega
            clear hA
            go_wp2_with fail
            go_ret
            exact ⟨rfl, HB5.out⟩
          · have hl2i : ¬ (L.length : Int) < 2 := by omega
            clear hA
            try (exfalso; omega)
            all_goals
              go_wp2_with fail
              refine (win_list (n := 1) HR5.out (by rw [HQ5.out]; have := HL.out; omega) (by omega)).mono ?_
              rintro e w6 ⟨A6, a6, c6, rfl, hr, hA, hAi, b6⟩
              have HB6 := Lib.hid (Below.step HB5.out b6); have H6 := Lib.hid (H5.out.below b6); have HR6 := Lib.hid hr; have HA6 := Lib.hid hAi; have HQ6 := Lib.hid hA
              clear b6 hr hA hAi
              go_wp2_with fail
              go_loopw [86] (fun c wr => ∃ j : Nat, j ≤ A6.length ∧ c = .int .i64 j ∧ Below w6.heap.size w6 wr) (fun c _ => A6.length - (intOf c).toNat)
              case atStart => exact ⟨0, by omega, rfl, Below.refl _ _⟩
              case round =>
                obtain ⟨j, hj, rfl, hB⟩ := hrel
                have HBr := Lib.hid hB; clear hB
                have h61 : A6.length ≤ 1000 := by rw [HQ6.out, HQ5.out]; have := HL.out; omega
                by_cases hlt : j < A6.length
                · have hl3 : (j : Int) < (A6.length : Int) := by omega
                  have hl4 : (0 : Int) ≤ (j : Int) := by omega
                  have hj2 : j + 1 < L.length := by rw [HQ6.out, HQ5.out] at hlt; omega
                  have hj1 : j < L.length := by omega
                  have hj4 : j < A4.length := by rw [HQ6.out] at hlt; omega
                  have hl5 : (j : Int) + 1 < (L.length : Int) := by omega
                  have hl7 : (j : Int) < (L.length : Int) := by omega
                  have hl6 : (0 : Int) ≤ (j : Int) + 1 := by omega
                  obtain ⟨b3, e3, hb3, m3⟩ := HR6.out.at hlt
                  obtain ⟨b2, e2, hb2, m2⟩ := H6.out.at hj2
                  obtain ⟨b1, e1, hb1, m1⟩ := H6.out.at hj1
                  simp only [Value.slice.injEq, Option.some.injEq] at hb3 hb2 hb1
                  obtain ⟨rfl, -, rfl⟩ := hb3
                  obtain ⟨rfl, -, rfl⟩ := hb2
                  obtain ⟨rfl, -, rfl⟩ := hb1
                  have hv : A6[j] = wrap64 (L[j] + L[j + 1]) := by rw [HA6.out, winF_one hj4, HA5.out, winF_two hj2]; rfl
                  rw [addr_add] at m2
                  rw [hv] at m3
                  have m4 := m3 wr HBr.out
                  have HW1 := Lib.hid (wrap_in (x := (j : Int) + 1) (by omega) (by omega))
                  clear hv m3
                  generalize L[j] = x at m1 m4
                  generalize L[j + 1] = y at m2 m4
                  go_wp2_with fail
                  have B0 : Below w6.heap.size w6 wr.drew := HBr.out.drew
                  have hw1 := HW1.out
                  have hw2 : IntKind.i64.wrap (x + y) = wrap64 (x + y) := by rw [IntKind.wrap_i64]; unfold wrap64; omega
                  refine wp_region_anyH (Below w6.heap.size w6) (by kernel_rfl) ?_
                  refine AnyH.take (i := 0) (d := some 91) (v := ?_) (by kernel_rfl) rfl rfl HF (fun _ _ _ h => h) (.inl ⟨by rfl, ?_⟩) (by first | assumption | rfl) ?_
                  rotate_left
                  · intro w hS; try subst hS
                    go_simp; try with_reducible rfl
                  try simp only [Act.put, List.setIfInBounds_toArray, List.set_cons_zero, List.set_cons_succ]
                  refine AnyH.take (i := 1) (d := some 92) (v := ?_) (by kernel_rfl) rfl rfl HF (fun _ _ _ h => h) (.inl ⟨by rfl, ?_⟩) (by first | assumption | rfl) ?_
                  rotate_left
                  · intro w hS; try subst hS
                    go_simp; try with_reducible rfl
                  try simp only [Act.put, List.setIfInBounds_toArray, List.set_cons_zero, List.set_cons_succ]
                  refine AnyH.take (i := 2) (d := some 93) (v := ?_) (by kernel_rfl) rfl rfl HF (fun _ _ _ h => h) (.inl ⟨by rfl, ?_⟩) (by first | assumption | rfl) ?_
                  rotate_left
                  · intro w hS; try subst hS
                    go_simp; try with_reducible rfl
                  try simp only [Act.put, List.setIfInBounds_toArray, List.set_cons_zero, List.set_cons_succ]
                  refine AnyH.take (i := 3) (d := some 94) (v := ?_) (by kernel_rfl) rfl rfl HF (fun _ _ _ h => h) (.inl ⟨by rfl, ?_⟩) (by first | assumption | rfl) ?_
                  rotate_left
                  · intro w hS; try subst hS
                    go_simp; try with_reducible rfl
                  try simp only [Act.put, List.setIfInBounds_toArray, List.set_cons_zero, List.set_cons_succ]
                  refine AnyH.take (i := 4) (d := some 95) (v := ?_) (by kernel_rfl) rfl rfl HF (fun _ _ _ h => h) (.inl ⟨by rfl, ?_⟩) (by first | assumption | rfl) ?_
                  rotate_left
                  · intro w hS; try subst hS
                    go_simp; try with_reducible rfl
                  try simp only [Act.put, List.setIfInBounds_toArray, List.set_cons_zero, List.set_cons_succ]
                  refine AnyH.take (i := 5) (d := some 96) (v := ?_) (by kernel_rfl) rfl rfl HF (fun _ _ _ h => h) (.inl ⟨by rfl, ?_⟩) (by first | assumption | rfl) ?_
                  rotate_left
                  · intro w hS; try subst hS
                    go_simp; try with_reducible rfl
                  try simp only [Act.put, List.setIfInBounds_toArray, List.set_cons_zero, List.set_cons_succ]
                  refine AnyH.take (i := 6) (d := some 97) (v := ?_) (by kernel_rfl) rfl rfl HF (fun _ _ _ h => h) (.inl ⟨by rfl, ?_⟩) (by first | assumption | rfl) ?_
                  rotate_left
                  · intro w hS; try subst hS
                    go_simp; try with_reducible rfl
                  try simp only [Act.put, List.setIfInBounds_toArray, List.set_cons_zero, List.set_cons_succ]
                  refine AnyH.take (i := 7) (d := some 98) (v := ?_) (by kernel_rfl) rfl rfl HF (fun _ _ _ h => h) (.inl ⟨by rfl, ?_⟩) (by first | assumption | rfl) ?_
                  rotate_left
                  · intro w hS; try subst hS
                    go_simp; try with_reducible rfl
                  try simp only [Act.put, List.setIfInBounds_toArray, List.set_cons_zero, List.set_cons_succ]
                  refine AnyH.take (i := 8) (d := some 99) (v := ?_) (by kernel_rfl) rfl rfl HF (fun _ _ _ h => h) (.inl ⟨by rfl, ?_⟩) (by first | assumption | rfl) ?_
                  rotate_left
                  · intro w hS; try subst hS
                    go_simp; try with_reducible rfl
                  try simp only [Act.put, List.setIfInBounds_toArray, List.set_cons_zero, List.set_cons_succ]
                  refine AnyH.take (i := 9) (d := some 100) (v := ?_) (by kernel_rfl) rfl rfl HF (fun _ _ _ h => h) (.inl ⟨by rfl, ?_⟩) (by first | assumption | rfl) ?_
                  rotate_left
                  · intro w hS; try subst hS
                    go_simp; try with_reducible rfl
                  try simp only [Act.put, List.setIfInBounds_toArray, List.set_cons_zero, List.set_cons_succ]
                  refine AnyH.take (i := 10) (d := some 101) (v := ?_) (by kernel_rfl) rfl rfl HF (fun _ _ _ h => h) (.inl ⟨by rfl, ?_⟩) (by first | assumption | rfl) ?_
                  rotate_left
                  · intro w hS; try subst hS
                    go_simp; try with_reducible rfl
                  try simp only [Act.put, List.setIfInBounds_toArray, List.set_cons_zero, List.set_cons_succ]
                  refine AnyH.take (i := 11) (d := some 102) (v := ?_) (by kernel_rfl) rfl rfl HF (fun _ _ _ h => h) (.inl ⟨by rfl, ?_⟩) (by first | assumption | rfl) ?_
                  rotate_left
                  · intro w hS; try subst hS
                    go_simp; try with_reducible rfl
                  try simp only [Act.put, List.setIfInBounds_toArray, List.set_cons_zero, List.set_cons_succ]
                  refine AnyH.done (by kernel_rfl) ?_
                  clear hw1 hw2
                  go_wp2_with fail
                  go_roundw
                  case rel => exact ⟨j + 1, by omega, by go_num, B0⟩
                  case measure => simp [intOf]; omega
                · obtain rfl : j = A6.length := by omega
                  go_wp2_with fail
                  go_ret
                  exact ⟨rfl, Below.step HB6.out HBr.out⟩
end A
end Go.Proofs.Ytpgnhnimndagpaa
