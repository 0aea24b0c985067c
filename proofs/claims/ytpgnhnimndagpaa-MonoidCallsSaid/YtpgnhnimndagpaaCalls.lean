/- MonoidCalls: the walk. -/
import Derived.Test.YtpgnhnimndagpaaAwakeM
import Derived.Test.YtpgnhnimndagpaaCallsF
import Derived.Test.YtpgnhnimndagpaaCallsP
import Derived.Test.YtpgnhnimndagpaaCallsR
import Derived.Test.YtpgnhnimndagpaaCallsW
namespace Go.Proofs.Ytpgnhnimndagpaa
open Go.RowKit
namespace C
attribute [local go_sem] Oper.semAt_some

theorem _root_.Go.Proofs.Ytpgnhnimndagpaa.RowAt.bc {α : Type} {ev : α → Value} {C : Nat} {A B : World} {v : Value} {L : List α} (h : RowAt ev A v L) (hb : BC C A B) (hrow : ∀ (i : Nat) (h : i < L.length), ∃ b cap, v = .slice (some b) L.length cap ∧ (b.add i).block ≠ C) : RowAt ev B v L := by
  obtain ⟨a, c, rfl, h1, h2, h⟩ := h
  refine ⟨a, c, rfl, h1, h2, fun i hi => ?_⟩
  obtain ⟨b, e, m⟩ := h i hi
  obtain ⟨b', c', e', m'⟩ := hrow i hi
  subst e
  simp only [Value.slice.injEq, Option.some.injEq] at e'
  obtain ⟨rfl, -, -⟩ := e'
  exact ⟨b, rfl, hb.cell m' m⟩
theorem row_apart {α : Type} {ev : α → Value} {W : World} {v : Value} {L : List α} (h : RowAt ev W v L) {C : Nat} (hC : W.heap.size ≤ C) : ∀ (i : Nat) (_ : i < L.length), ∃ b cap, v = .slice (some b) L.length cap ∧ (b.add i).block ≠ C := by
  obtain ⟨a, c, rfl, h1, h2, h⟩ := h
  intro i hi
  obtain ⟨b, e, m⟩ := h i hi
  subst e
  refine ⟨b, c, rfl, ?_⟩
  have := World.block_lt_of_cell? W _ m
  omega
theorem win_list {W : World} {v : Value} {L : List Int} (hL : RowAt (Value.int .i64) W v L) {C c : Nat} (hC : Cn W C c) (hc : c ≤ 100000) (hn : L.length ≤ 100000) (hrow : ∀ (i : Nat) (h : i < L.length), ∃ b cap, v = .slice (some b) L.length cap ∧ (b.add i).block ≠ C) (n : Int) :
    Calls Try.prog 36 #[.agg #[.pointer (some ⟨C, 0, none⟩)], v, .int .i64 n] W (FP C c (4 * L.length) W) := by
  by_cases h : n < 1 ∨ (L.length : Int) < n
  · exact win_none hL hC h
  · obtain ⟨m, rfl⟩ : ∃ m : Nat, n = (m : Int) := ⟨n.toNat, by omega⟩
    exact win_any hL hC hc hn hrow (by omega) (by omega)

set_option maxRecDepth 100000 in
set_option maxHeartbeats 4000000 in
theorem calls_any {W : World} {v : Value} {L : List Int} (hL : RowAt (Value.int .i64) W v L) (n k : Int) (hk : k ≤ 9223372036854775807) :
    Calls Try.prog 10 #[v, .int .i64 n, .int .i64 k] W fun e w' => e = .returned (.bool true) ∧ Below W.heap.size W w' := by
  have HF : ∀ f, Fence.wide.fn f := fun _ => trivial
  have H := Lib.hid hL
  obtain ⟨a, cap, rfl, hc1, hc2, -⟩ := hL
  unfold maxLen at hc2
  by_cases hlen : 2000 < L.length
  · have h1i : (2000 : Int) < (L.length : Int) := by omega
    clear H
    go_enter Try.func10, Try.ntmps10
    go_wp2_with fail
    refine (awake_any W).mono ?_; rintro e w1 ⟨rfl, b1⟩
    have HB1 := Lib.hid b1; clear b1
    go_wp2_with fail
    refine (awake_any w1).mono ?_; rintro e w2 ⟨rfl, b2⟩
    have HB2 := Lib.hid (Below.step HB1.out b2); clear b2
    go_wp2_with fail
    go_ret
    exact ⟨rfl, HB2.out⟩
  · have h1i : ¬ (2000 : Int) < (L.length : Int) := by omega
    have h1d : decide ((2000 : Int) < (L.length : Int)) = false := decide_eq_false h1i
    have hl : L.length ≤ 2000 := by omega
    have HL := Lib.hid hl; clear hlen hl
    go_enter Try.func10, Try.ntmps10
    go_wp2_with fail
    refine (awake_any W).mono ?_; rintro e w1 ⟨rfl, b1⟩
    have HB1 := Lib.hid b1; have H1 := Lib.hid (H.out.below b1); clear b1 H
    go_wp2_with fail
    obtain ⟨C, hC⟩ : ∃ C, w1.heap.size = C := ⟨_, rfl⟩
    obtain ⟨W2, hW2⟩ : ∃ W2, (w1.alloc (.cells #[.int .i64 0] 3)).alloc (.cells #[.pointer (some ⟨C, 0, none⟩)] 76) = W2 := ⟨_, rfl⟩
    have hb2 : Below w1.heap.size w1 W2 := by rw [← hW2]; exact ((Below.refl _ w1).alloc (Nat.le_refl _) _).alloc (by simp) _
    have HC2 : Hid (Cn W2 C 0) := Lib.hid (by
      rw [← hW2, ← hC]
      exact (Below.heap_alloc _ _ _ (by simp)).trans (heap_new w1 _))
    have HX2 : Hid (W2.heap[C + 1]? = some (.cells #[.pointer (some ⟨C, 0, none⟩)] 76 (0, 0))) := Lib.hid (by
      rw [← hW2, ← hC]
      exact heap_new1 _ _ _)
    have HB2 := Lib.hid (Below.step HB1.out hb2); have H2 := Lib.hid (H1.out.below hb2)
    have HA := Lib.hid (row_apart H1.out (C := C) (by omega))
    have HWC : Hid (W.heap.size ≤ C) := Lib.hid (by rw [← hC]; exact HB1.out.size)
    have c0 := box_cell HX2.out
    rw [hC] 
    rw [hW2]
    clear hb2 H1 HB1 hW2 hC
    refine (fold_any H2.out HC2.out (by omega) (by have := HL.out; omega) HA.out).mono ?_
    rintro e w3 ⟨v1, d1, rfl, hd1, hs⟩
    rw [Nat.zero_add] at hs
    have HS3 := Lib.hid hs; have H3 := Lib.hid (H2.out.bc hs.2 HA.out)
    clear hs c0
    have x3 := HS3.out.2.obj (k := C + 1) (by omega) HX2.out
    have c3 := box_cell x3; have b3 := box_cell HS3.out.1
    have hL2 := HL.out
    clear x3
    go_wp2_with fail
    refine (pref_any H3.out HS3.out.1 (by omega) (by omega) HA.out).mono ?_
    rintro e w4 ⟨v2, d2, rfl, hd2, hs⟩
    obtain ⟨s2, hs2⟩ : ∃ s2, d1 + d2 = s2 := ⟨_, rfl⟩
    rw [hs2] at hs
    have HS4 := Lib.hid (HS3.out.step hs); have H4 := Lib.hid (H3.out.bc hs.2 HA.out)
    clear hs c3 b3
    have x4 := HS4.out.2.obj (k := C + 1) (by omega) HX2.out
    have c4 := box_cell x4; have b4 := box_cell HS4.out.1
    have q2 : (s2 : Int) - (d1 : Int) = (d2 : Int) := by omega
    clear x4
    go_wp2_with fail
    refine (win_list H4.out HS4.out.1 (by omega) (by omega) HA.out n).mono ?_
    rintro e w5 ⟨v3, d3, rfl, hd3, hs⟩
    obtain ⟨s3, hs3⟩ : ∃ s3, s2 + d3 = s3 := ⟨_, rfl⟩
    rw [hs3] at hs
    have HS5 := Lib.hid (HS4.out.step hs); have H5 := Lib.hid (H4.out.bc hs.2 HA.out)
    clear hs c4 b4
    have x5 := HS5.out.2.obj (k := C + 1) (by omega) HX2.out
    have c5 := box_cell x5; have b5 := box_cell HS5.out.1
    clear x5
    go_wp2_with fail
    refine (pow_any 3 k hk HS5.out.1 (by omega)).mono ?_
    rintro e w6 ⟨v4, d4, rfl, hd4, hs⟩
    obtain ⟨s4, hs4⟩ : ∃ s4, s3 + d4 = s4 := ⟨_, rfl⟩
    rw [hs4] at hs
    have HS6 := Lib.hid (HS5.out.step hs)
    clear hs c5 b5
    have b6 := box_cell HS6.out.1
    have r1 : (d1 : Int) ≤ (L.length : Int) := by omega
    have r2 : (d2 : Int) ≤ (L.length : Int) := by omega
    have r3 : (d3 : Int) ≤ 4 * (L.length : Int) := by omega
    have r4 : (d4 : Int) ≤ 128 := by omega
    have HB6 : Hid (Below W.heap.size W w6) := Lib.hid (HS6.out.2.below HB2.out (by have := HC2.out.lt; have := HWC.out; omega) HWC.out)
    go_wp2_with fail
    go_ret
    exact ⟨congrArg (fun b => Ending.returned (Value.bool b)) (decide_eq_true (by omega)), HB6.out⟩
end C
end Go.Proofs.Ytpgnhnimndagpaa
