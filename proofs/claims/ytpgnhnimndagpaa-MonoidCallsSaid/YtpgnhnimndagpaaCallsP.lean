/- Power over the counting monoid. -/
import Derived.Test.YtpgnhnimndagpaaCallsF
namespace Go.Proofs.Ytpgnhnimndagpaa
open Go.RowKit
namespace C
attribute [local go_sem] Oper.semAt_some

theorem half_lt {q s : Nat} (h1 : 1 ≤ q) (h : q < 2 ^ s) : ∃ s', s = s' + 1 ∧ q / 2 < 2 ^ s' := by
  cases s with
  | zero => simp at h; omega
  | succ s => exact ⟨s, rfl, by rw [Nat.pow_succ] at h; omega⟩

set_option maxRecDepth 100000 in
set_option maxHeartbeats 4000000 in
theorem pow_any {W : World} (x : Int) (k : Int) (hk : k ≤ 9223372036854775807) {C c : Nat} (hC : Cn W C c) (hc : c ≤ 100000) :
    Calls Try.prog 37 #[.agg #[.pointer (some ⟨C, 0, none⟩)], .int .i64 x, .int .i64 k] W (FP C c 128 W) := by
  have hlt := hC.lt
  have hmf : ∀ (fn : Fn) (first cap : Array Value) (w : World), (Instr.makeFunc fn first cap).run Try.prog w = .ok (.func fn first cap) w := fun _ _ _ _ => rfl
  have hmU : ∀ w : World, (method 206 76 (.agg #[.pointer (some ⟨C, 0, none⟩)]) "Unit").run Try.prog w = .ok (86, .agg #[.pointer (some ⟨C, 0, none⟩)]) w := fun _ => by kernel_rfl
  have hmJ : ∀ w : World, (method 206 76 (.agg #[.pointer (some ⟨C, 0, none⟩)]) "Join").run Try.prog w = .ok (85, .agg #[.pointer (some ⟨C, 0, none⟩)]) w := fun _ => by kernel_rfl
  obtain ⟨W0, hW0⟩ : ∃ W0, (W.alloc (.cells #[.pointer (some ⟨C, 0, none⟩)] 76)).alloc (.cells #[.int .i64 0] 3) = W0 := ⟨_, rfl⟩
  have HB0 : Hid (Below W.heap.size W W0) := Lib.hid (by rw [← hW0]; exact start_below _ _ _ _)
  have HX0 : Hid (BX C W W0 3 (.int .i64 0)) := Lib.hid (by rw [← hW0]; exact BX.start _ _ _ _)
  have HS0 : Hid (St C W W0 c) := Lib.hid ((St.refl hC).below HB0.out)
  have c0 := box_cell HX0.out.1
  by_cases hk1 : k < 1
  · go_enter_defers Try.func37, Try.ntmps37
    go_wp2_with fail
    refine (cnt_unit C _).mono ?_; rintro e w1 ⟨rfl, b1⟩
    have HX1 := Lib.hid (HX0.out.below b1); have HS1 := Lib.hid (HS0.out.below b1)
    have c1 := box_cell HX1.out.2; have f1 := box_frozen HX1.out.2
    have HX2 := Lib.hid (HX1.out.put (.int .i64 0)); have HS2 := Lib.hid (HS1.out.set (p := ⟨W.heap.size + 1, 0, none⟩) (by simp) hlt (.int .i64 0))
    clear b1 c0
    go_wp2_with fail
    refine leaves_cons (f := 57) (args := #[.pointer (some ⟨W.heap.size + 1, 0, none⟩)]) (by simp) (by simp [go_sem]) ?_
    refine (catch57 ⟨W.heap.size + 1, 0, none⟩ _).mono ?_
    rintro e u' w'' ⟨rfl, rfl, rfl⟩
    have c2 := box_cell HX2.out.2
    simp only [Leaves, settle, results, Try.results37]
    simp [go_sem, c2]
    exact ⟨_, 0, rfl, by simp, HS2.out⟩
  · obtain ⟨K, rfl⟩ : ∃ K : Nat, k = (K : Int) := ⟨k.toNat, by omega⟩
    have hK : 1 ≤ K := by omega
    have hK2 : K < 2 ^ 63 := by omega
    have HK2 := Lib.hid hK2; clear hK2
    go_enter_defers Try.func37, Try.ntmps37
    go_wp2_with fail
    clear hW0 hk1 c0
    go_loopw [1, 2] (fun y k wr => ∃ (q d s : Nat) (z : Int), 1 ≤ q ∧ q ≤ K ∧ q < 2 ^ s ∧ d + 2 * s ≤ 128 ∧ y = .int .i64 z ∧ k = .int .i64 q ∧ BX C W wr 3 (.int .i64 0) ∧ St C W wr (c + d)) (fun _ k _ => (intOf k).toNat)
    case atStart => exact ⟨K, 0, 63, x, hK, Nat.le_refl _, HK2.out, by omega, rfl, rfl, HX0.out, HS0.out⟩
    case round =>
      obtain ⟨q, d, s, z, hq, hqK, hqs, hds, rfl, rfl, hX, hS⟩ := hrel
      have HX := Lib.hid hX; have HS := Lib.hid hS; clear hX hS HX0 HS0
      obtain ⟨s', rfl, hqs'⟩ := half_lt hq hqs
      have HQ := Lib.hid hqs'; clear hqs hqs'
      have c3 := box_cell HX.out.1
      by_cases hev : q % 2 = 0
      · have hev' : (q : Int) % 2 = 0 := by omega
        go_wp2_with fail
        refine (cnt_join C (c + d) (by omega) _ _ _ HS.out.1).mono ?_; rintro e' w1 ⟨z2, rfl, hs1⟩
        have HX1 := Lib.hid (HX.out.bc hs1.2 hlt); have HS1 := Lib.hid (HS.out.step hs1)
        clear hs1
        go_wp2_with fail
        go_roundw
        case rel => exact ⟨q / 2, d + 1, s', z2, by omega, by omega, HQ.out, by omega, rfl, by go_num, HX1.out, HS1.out⟩
        case measure => simp [intOf]; omega
      · have hev' : ¬ (q : Int) % 2 = 0 := by omega
        have hevb : ((q : Int) % 2 == 0) = false := by simpa using hev'
        have c1 := box_cell HX.out.2; have f1 := box_frozen HX.out.2
        have HX1 := Lib.hid (HX.out.put (.int .i64 z)); have HS1 := Lib.hid (HS.out.set (p := ⟨W.heap.size + 1, 0, none⟩) (by simp) hlt (.int .i64 z))
        go_wp2_with fail
        clear HX HS c1 f1 c3 hev' hevb hev
        go_loopw [1, 2] (fun y k wr => ∃ (q d s : Nat) (z z2 : Int), q ≤ K ∧ q < 2 ^ s ∧ d + 2 * s ≤ 128 ∧ y = .int .i64 z ∧ k = .int .i64 q ∧ BX C W wr 3 (.int .i64 z2) ∧ St C W wr (c + d)) (fun _ k _ => (intOf k).toNat)
        case atStart => exact ⟨q / 2, d, s', z, z, by omega, HQ.out, by omega, rfl, by go_num, HX1.out, HS1.out⟩
        case round =>
          clear HX1 HS1 HQ hds hq hqK
          obtain ⟨q, d, s, z, z2, hqK, hqs, hds, rfl, rfl, hX, hS⟩ := hrel
          have HX := Lib.hid hX; have HS := Lib.hid hS; clear hX hS
          have c3 := box_cell HX.out.1
          by_cases hq0 : 0 < q
          · have hq0' : (0 : Int) < (q : Int) := by omega
            obtain ⟨s', rfl, hqs'⟩ := half_lt hq0 hqs
            have HQ := Lib.hid hqs'; clear hqs hqs'
            by_cases hev : q % 2 = 1
            · have hev' : (q : Int) % 2 = 1 := by omega
              go_wp2_with fail
              refine (cnt_join C (c + d) (by omega) _ _ _ HS.out.1).mono ?_; rintro e' w1 ⟨z3, rfl, hs1⟩
              have HX1 := Lib.hid (HX.out.bc hs1.2 hlt); have HS1 := Lib.hid (HS.out.step hs1)
              clear hs1 c3
              have c1 := box_cell HX1.out.2; have c3 := box_cell HX1.out.1
              go_wp2_with fail
              refine (cnt_join C (c + d + 1) (by omega) _ _ _ HS1.out.1).mono ?_; rintro e' w3 ⟨z4, rfl, hs3⟩
              have HX3 := Lib.hid (HX1.out.bc hs3.2 hlt); have HS3 := Lib.hid (HS1.out.step hs3)
              clear hs3 c1 c3
              have c1 := box_cell HX3.out.2; have f1 := box_frozen HX3.out.2
              have HX4 := Lib.hid (HX3.out.put (.int .i64 z4)); have HS4 := Lib.hid (HS3.out.set (p := ⟨W.heap.size + 1, 0, none⟩) (by simp) hlt (.int .i64 z4))
              go_wp2_with fail
              go_roundw
              case rel => exact ⟨q / 2, d + 2, s', z3, z4, by omega, HQ.out, by omega, rfl, by go_num, HX4.out, HS4.out⟩
              case measure => simp [intOf]; omega
            · have hev' : ¬ (q : Int) % 2 = 1 := by omega
              go_wp2_with fail
              refine (cnt_join C (c + d) (by omega) _ _ _ HS.out.1).mono ?_; rintro e' w1 ⟨z3, rfl, hs1⟩
              have HX1 := Lib.hid (HX.out.bc hs1.2 hlt); have HS1 := Lib.hid (HS.out.step hs1)
              clear hs1 c3
              go_wp2_with fail
              go_roundw
              case rel => exact ⟨q / 2, d + 1, s', z3, z2, by omega, HQ.out, by omega, rfl, by go_num, HX1.out, HS1.out⟩
              case measure => simp [intOf]; omega
          · obtain rfl : q = 0 := by omega
            have c1 := box_cell HX.out.2; have f1 := box_frozen HX.out.2
            have HX2 := Lib.hid (HX.out.put (.int .i64 z2)); have HS2 := Lib.hid (HS.out.set (p := ⟨W.heap.size + 1, 0, none⟩) (by simp) hlt (.int .i64 z2))
            go_wp2_with fail
            refine leaves_cons (f := 57) (args := #[.pointer (some ⟨W.heap.size + 1, 0, none⟩)]) (by simp) (by simp [go_sem]) ?_
            refine (catch57 ⟨W.heap.size + 1, 0, none⟩ _).mono ?_
            rintro e' u' w'' ⟨rfl, rfl, rfl⟩
            have c2 := box_cell HX2.out.2
            simp only [Leaves, settle, results, Try.results37]
            simp [go_sem, c2]
            exact ⟨_, d, rfl, by omega, HS2.out⟩
end C
end Go.Proofs.Ytpgnhnimndagpaa
