/- The patch: Length. -/
import Derived.Test.YtplccefjljdjnaaPatch2
set_option linter.unusedVariables false
set_option linter.unusedSimpArgs false
namespace Go.Proofs.Ytplccefjljdjnaa
open Go.RowKit Go.Lib
namespace M
attribute [local go_sem] Oper.semAt_some
set_option maxRecDepth 100000 in
set_option maxHeartbeats 8000000 in
theorem plength_any {n0 B most b0 : Nat} {W : World} {E : List En} (hs : StAt n0 W B most E) (hwf : Wf E) (hE : E.length ≤ 1048576) {v : Value} {L : List Chg} (hC : Chs b0 W v L) (hT : Txs E L) (hLb : L.length ≤ 1000000) (len : Int) :
    Calls Try.prog 24 #[.pointer (some ⟨B, 0, none⟩), .int .i64 len, v] W fun e w' => e = .returned (.tuple #[.int .i64 (lngF E len L).1, errV (lngF E len L).2]) ∧ Below W.heap.size W w' := by
  have HS := Lib.hid hs; have HC := Lib.hid hC; have HT := Lib.hid hT; have HWF := Lib.hid hwf
  have HCK := Lib.hid (check_any hs hE hC hT hLb len)
  obtain ⟨va, vc, rfl⟩ := hC.len
  obtain ⟨res, hres⟩ : ∃ r, lngF E len L = r := ⟨_, rfl⟩
  have HR := Lib.hid hres
  rw [hres]
  clear hs hC hT hres hwf
  by_cases hck : chkF len L = 0
  · rw [hck] at HCK
    have hH : 0 ≤ len ∧ len ≤ 1152921504606846976 ∧ formF len (-1) L = true := by
      unfold chkF maxL at hck
      split at hck
      · cases hck
      · rename_i h1
        split at hck
        · rename_i h2; exact ⟨by omega, by omega, h2⟩
        · cases hck
    have HH := Lib.hid hH
    have HD : Hid (∀ j, 0 ≤ delF (L.take j) ∧ delF (L.take j) ≤ len) := Lib.hid (fun j => del_le hH.1 (formF_take hH.2.2 j))
    have HRR : Hid (res = if len - delF L + insF E L ≤ 1152921504606846976 then (len - delF L + insF E L, 0) else (0, 2)) := Lib.hid (by
      rw [← HR.out]; unfold lngF maxL; rw [if_neg (by rw [hck]; simp)])
    obtain ⟨kp, hkp⟩ : ∃ k : Nat, len - delF L = (k : Int) := ⟨(len - delF L).toNat, by have := HD.out L.length; rw [List.take_length] at this; omega⟩
    have hkb : kp ≤ 1152921504606846976 := by have := HD.out L.length; rw [List.take_length] at this; omega
    rw [hkp] at HRR
    have HKP := Lib.hid hkp; have HKB := Lib.hid hkb
    have hlb2 : len ≤ 1152921504606846976 := hH.2.1
    clear hck hH hkp hkb
    unfold errV at HCK
    rw [if_pos rfl] at HCK
    go_enter Try.func24, Try.ntmps24
    go_wp2_with fail
    refine HCK.out.mono ?_; rintro e w0 ⟨rfl, b0'⟩
    have HB0 := Lib.hid b0'
    clear b0' HCK
    go_wp2_with fail
    go_loopw [1, 24] (fun lv iv wr => ∃ (j : Nat) (x : Int), iv = .int .i64 j ∧ lv = .int .i64 x ∧ j ≤ L.length ∧ x = len - delF (L.take j) ∧ Below W.heap.size W wr) (fun _ iv _ => L.length - (intOf iv).toNat)
    case atStart => exact ⟨0, len, rfl, rfl, Nat.zero_le _, by show len = len - 0; omega, HB0.out⟩
    case round =>
      clear HB0
      obtain ⟨j, x, rfl, rfl, hj, hx, hB⟩ := hrel
      have HB := Lib.hid hB; have HX := Lib.hid hx
      clear hB hx
      by_cases hlt : j < L.length
      · have hlt2 : (j : Int) < (L.length : Int) := by omega
        have hlt3 : (0 : Int) ≤ (j : Int) := by omega
        obtain ⟨g, cap, hv, -, -, hc⟩ := HC.out.at hlt
        simp only [Value.slice.injEq] at hv
        obtain ⟨rfl, -, rfl⟩ := hv
        obtain ⟨q0, q1, q2⟩ := hc wr HB.out j hlt
        have hnx : x - L[j].n = len - delF (L.take (j + 1)) := by rw [take_snoc hlt, delF_snoc]; have := HX.out; omega
        have hws : IntKind.i64.wrap (x - L[j].n) = x - L[j].n := by have := HD.out (j + 1); rw [IntKind.wrap_i64]; omega
        generalize L[j] = c at *
        obtain ⟨wz, w1, hz, hs1, kc, bc, ⟨p0, p1, p2⟩, f0, f1, f2⟩ := newCh wr c
        obtain ⟨gc, hgc⟩ : ∃ x, wr.heap.size = x := ⟨_, rfl⟩
        rw [hgc] at hs1 p0 p1 p2 f0 f1 f2 kc
        obtain ⟨y0, y1, y2⟩ := kc.cells
        have HB1 := Lib.hid (Below.after HB.out bc); have HNX := Lib.hid hnx
        clear hc bc kc hnx
        go_wp2_with fail
        clear hz hs1 p0 p1 p2 f0 f1 f2 q0 q1 q2 y0 y1 y2 hgc hws
        go_roundw
        case rel => exact ⟨j + 1, x - c.n, by go_num, rfl, by omega, HNX.out, HB1.out⟩
        case measure => first | (simp [intOf]; omega) | simp [intOf]
      · have hlt2 : ¬ (j : Int) < (L.length : Int) := by omega
        have hxk : x = (kp : Int) := by have h := HX.out; rw [List.take_of_length_le (by omega)] at h; have := HKP.out; omega
        subst hxk
        clear hlt hj HX
        go_wp2_with fail
        go_loopw [1, 35] (fun lv iv wr => ∃ (j y : Nat), iv = .int .i64 j ∧ lv = .int .i64 y ∧ j ≤ L.length ∧ y = kp + insF E (L.take j) ∧ y ≤ 1152921504606846976 ∧ Below W.heap.size W wr) (fun _ iv _ => L.length - (intOf iv).toNat)
        case atStart => exact ⟨0, kp, rfl, rfl, Nat.zero_le _, rfl, HKB.out, HB.out⟩
        case round =>
          clear HB
          obtain ⟨j, y, rfl, rfl, hj, hy, hyb, hB⟩ := hrel
          have HB := Lib.hid hB; have HY := Lib.hid hy
          clear hB hy
          by_cases hlt : j < L.length
          · have hlt2 : (j : Int) < (L.length : Int) := by omega
            have hlt3 : (0 : Int) ≤ (j : Int) := by omega
            obtain ⟨g, cap, hv, -, -, hc⟩ := HC.out.at hlt
            simp only [Value.slice.injEq] at hv
            obtain ⟨rfl, -, rfl⟩ := hv
            obtain ⟨q0, q1, q2⟩ := hc wr HB.out j hlt
            have HNX : Hid (y + (txt E L[j].id).length = kp + insF E (L.take (j + 1))) := Lib.hid (by rw [take_snoc hlt, insF_snoc]; have := HY.out; omega)
            have HIT := Lib.hid (insF_take_le E L (j + 1))
            obtain ⟨hid, -⟩ := HT.out L[j] (List.getElem_mem hlt)
            generalize L[j] = c at *
            obtain ⟨wz, w1, hz, hs1, kc, bc, ⟨p0, p1, p2⟩, f0, f1, f2⟩ := newCh wr c
            obtain ⟨gc, hgc⟩ : ∃ x, wr.heap.size = x := ⟨_, rfl⟩
            rw [hgc] at hs1 p0 p1 p2 f0 f1 f2 kc
            obtain ⟨y0, y1, y2⟩ := kc.cells
            obtain ⟨hw, hwl⟩ := HWF.out.len hid
            have HPS := Lib.hid (psize_any ((HS.out.below HB.out).below bc) hid hE)
            obtain ⟨tl, htl⟩ : ∃ n, (txt E c.id).length = n := ⟨_, rfl⟩
            have hwe : (entAt E c.id).w.len = tl := by rw [hw, ← htl]; rfl
            rw [hwe] at HPS
            rw [htl] at HNX hwl
            have HAD := Lib.hid (fun w => add1_any w hyb hwl)
            have HB1 := Lib.hid (Below.after HB.out bc)
            clear hc bc kc hw hwe htl
            by_cases hsum : y + tl ≤ 1152921504606846976
            · simp only [if_pos hsum] at HAD
              go_wp2_with fail
              refine HPS.out.mono ?_; rintro e w2 ⟨rfl, b2⟩
              have HB2 := Lib.hid (Below.after HB1.out b2)
              clear b2
              clear hz hs1 p0 p1 p2 f0 f1 f2 q0 q1 q2 y0 y1 y2 hgc
              go_wp2_with fail
              refine (HAD.out w2).mono ?_; rintro e w ⟨rfl, h⟩; rw [h]; clear h w
              go_wp2_with fail
              go_roundw
              case rel => exact ⟨j + 1, y + tl, by go_num, rfl, by omega, HNX.out, hsum, HB2.out⟩
              case measure => first | (simp [intOf]; omega) | simp [intOf]
            · simp only [if_neg hsum] at HAD
              unfold err at HAD
              have HE2 : Hid (res = (0, 2)) := Lib.hid (by rw [HRR.out, if_neg (by have := HNX.out; have := HIT.out; omega)])
              clear hsum
              go_wp2_with fail
              refine HPS.out.mono ?_; rintro e w2 ⟨rfl, b2⟩
              have HB2 := Lib.hid (Below.after HB1.out b2)
              clear b2
              clear hz hs1 p0 p1 p2 f0 f1 f2 q0 q1 q2 y0 y1 y2 hgc
              go_wp2_with fail
              refine (HAD.out w2).mono ?_; rintro e w ⟨rfl, h⟩; rw [h]; clear h w
              go_wp2_with fail
              go_ret2
              exact ⟨by rw [HE2.out]; rfl, HB2.out⟩
          · have hlt2 : ¬ (j : Int) < (L.length : Int) := by omega
            have HE2 : Hid (res = ((y : Int), 0)) := Lib.hid (by
              have h := HY.out
              rw [List.take_of_length_le (by omega)] at h
              rw [HRR.out, if_pos (by omega)]
              congr 1
              omega)
            clear hlt hj hyb
            go_wp2_with fail
            go_ret2
            exact ⟨by rw [HE2.out]; rfl, HB.out⟩
  · obtain ⟨cd, hcd⟩ : ∃ c, chkF len L = c := ⟨_, rfl⟩
    have HE2 : Hid (res = (0, cd)) := Lib.hid (by rw [← HR.out]; unfold lngF; rw [if_pos hck, hcd])
    have HEV : Hid (errV cd = err cd) := Lib.hid (by unfold errV; rw [if_neg (by rw [← hcd]; exact hck)])
    rw [hcd, HEV.out] at HCK
    unfold err at HCK
    clear hck hcd
    go_enter Try.func24, Try.ntmps24
    go_wp2_with fail
    refine HCK.out.mono ?_; rintro e w0 ⟨rfl, b0'⟩
    have HB0 := Lib.hid b0'
    clear b0' HCK
    go_wp2_with fail
    go_ret2
    exact ⟨by rw [HE2.out]; show _ = Ending.returned (.tuple #[.int .i64 0, errV cd]); rw [HEV.out]; rfl, HB0.out⟩
end M
end Go.Proofs.Ytplccefjljdjnaa
