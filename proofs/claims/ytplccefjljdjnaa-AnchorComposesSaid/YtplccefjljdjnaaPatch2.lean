/- The patch: Range, Check. -/
import Derived.Test.YtplccefjljdjnaaPatch
set_option linter.unusedVariables false
set_option linter.unusedSimpArgs false
namespace Go.Proofs.Ytplccefjljdjnaa
open Go.RowKit Go.Lib
namespace M
attribute [local go_sem] Oper.semAt_some
set_option maxRecDepth 100000 in
set_option maxHeartbeats 1000000 in
theorem rng_any (W : World) (f n l : Int) : Calls Try.prog 47 #[.int .i64 f, .int .i64 n, .int .i64 l] W fun e w' => e = .returned (if rngB f n l then .nilIface else err 1) ∧ w' = W := by
  have HV := Lib.hid (valid_any W l)
  by_cases h0 : 0 ≤ l ∧ l ≤ 1152921504606846976
  · rw [decide_eq_true h0] at HV
    by_cases h1 : f < 0
    · have e : rngB f n l = false := by
        cases hh : rngB f n l with
        | false => rfl
        | true => have := rngB_iff.1 hh; omega
      rw [e, if_neg (by simp)]
      go_enter Try.func47, Try.ntmps47
      go_wp2_with fail
      refine HV.out.mono ?_; rintro e w ⟨rfl, h⟩; rw [h]; clear h w
      go_wp2_with fail
      go_ret
      exact ⟨rfl, rfl⟩
    · by_cases h2 : n < 0
      · have e : rngB f n l = false := by
          cases hh : rngB f n l with
          | false => rfl
          | true => have := rngB_iff.1 hh; omega
        rw [e, if_neg (by simp)]
        go_enter Try.func47, Try.ntmps47
        go_wp2_with fail
        refine HV.out.mono ?_; rintro e w ⟨rfl, h⟩; rw [h]; clear h w
        go_wp2_with fail
        go_ret
        exact ⟨rfl, rfl⟩
      · by_cases h3 : f > l
        · have e : rngB f n l = false := by
            cases hh : rngB f n l with
            | false => rfl
            | true => have := rngB_iff.1 hh; omega
          rw [e, if_neg (by simp)]
          go_enter Try.func47, Try.ntmps47
          go_wp2_with fail
          refine HV.out.mono ?_; rintro e w ⟨rfl, h⟩; rw [h]; clear h w
          go_wp2_with fail
          go_ret
          exact ⟨rfl, rfl⟩
        · have hw : IntKind.i64.wrap (l - f) = l - f := by rw [IntKind.wrap_i64]; omega
          by_cases h4 : n > l - f
          · have e : rngB f n l = false := by
              cases hh : rngB f n l with
              | false => rfl
              | true => have := rngB_iff.1 hh; omega
            rw [e, if_neg (by simp)]
            go_enter Try.func47, Try.ntmps47
            go_wp2_with fail
            refine HV.out.mono ?_; rintro e w ⟨rfl, h⟩; rw [h]; clear h w
            go_wp2_with fail
            go_ret
            exact ⟨rfl, rfl⟩
          · have e : rngB f n l = true := rngB_iff.2 ⟨h0.1, by unfold maxL; omega, by omega, by omega, by omega, by omega⟩
            rw [e, if_pos rfl]
            go_enter Try.func47, Try.ntmps47
            go_wp2_with fail
            refine HV.out.mono ?_; rintro e w ⟨rfl, h⟩; rw [h]; clear h w
            go_wp2_with fail
            go_ret
            exact ⟨rfl, rfl⟩
  · rw [decide_eq_false h0] at HV
    have e : rngB f n l = false := by
      cases hh : rngB f n l with
      | false => rfl
      | true => have h := rngB_iff.1 hh; unfold maxL at h; omega
    rw [e, if_neg (by simp)]
    go_enter Try.func47, Try.ntmps47
    go_wp2_with fail
    refine HV.out.mono ?_; rintro e w ⟨rfl, h⟩; rw [h]; clear h w
    go_wp2_with fail
    go_ret
    exact ⟨rfl, rfl⟩
set_option maxRecDepth 100000 in
set_option maxHeartbeats 8000000 in
theorem check_any {n0 B most b0 : Nat} {W : World} {E : List En} (hs : StAt n0 W B most E) (hE : E.length ≤ 1048576) {v : Value} {L : List Chg} (hC : Chs b0 W v L) (hT : Txs E L) (hLb : L.length ≤ 1000000) (len : Int) :
    Calls Try.prog 44 #[.pointer (some ⟨B, 0, none⟩), .int .i64 len, v] W fun e w' => e = .returned (errV (chkF len L)) ∧ Below W.heap.size W w' := by
  have HS := Lib.hid hs; have HC := Lib.hid hC; have HT := Lib.hid hT
  have HV := Lib.hid (valid_any W len)
  have HPB := Lib.hid (fun w hw => pbalanced_any (hs.below hw) hE (hC.below hw) hT hLb (W := w))
  obtain ⟨va, vc, rfl⟩ := hC.len
  obtain ⟨res, hres⟩ : ∃ r, chkF len L = r := ⟨_, rfl⟩
  have HR := Lib.hid hres
  rw [hres]
  clear hs hC hT hres
  by_cases h0 : 0 ≤ len ∧ len ≤ 1152921504606846976
  · rw [decide_eq_true h0] at HV
    have HH0 := Lib.hid h0
    clear h0
    go_enter Try.func44, Try.ntmps44
    go_wp2_with fail
    refine HV.out.mono ?_; rintro e w ⟨rfl, h⟩; rw [h]; clear h w
    go_wp2_with fail
    go_loopw [21] (fun iv wr => ∃ i : Nat, iv = .int .i64 i ∧ i ≤ L.length ∧ Below W.heap.size W wr) (fun iv _ => L.length - (intOf iv).toNat)
    case atStart => exact ⟨0, rfl, Nat.zero_le _, Below.refl _ _⟩
    case round =>
      obtain ⟨i, rfl, hi, hB⟩ := hrel
      have HB := Lib.hid hB
      clear hB
      by_cases hlt : i < L.length
      · have hlt2 : (i : Int) < (L.length : Int) := by omega
        have hlt3 : (0 : Int) ≤ (i : Int) := by omega
        obtain ⟨g, cap, hv, -, -, hc⟩ := HC.out.at hlt
        simp only [Value.slice.injEq] at hv
        obtain ⟨rfl, -, rfl⟩ := hv
        obtain ⟨q0, q1, q2⟩ := hc wr HB.out i hlt
        obtain ⟨hid, -⟩ := HT.out L[i] (List.getElem_mem hlt)
        generalize L[i] = c at *
        obtain ⟨wz, w1, hz, hs1, kc, bc, ⟨p0, p1, p2⟩, f0, f1, f2⟩ := newCh wr c
        obtain ⟨gc, hgc⟩ : ∃ x, wr.heap.size = x := ⟨_, rfl⟩
        rw [hgc] at hs1 p0 p1 p2 f0 f1 f2 kc
        obtain ⟨y0, y1, y2⟩ := kc.cells
        have HUK := Lib.hid (unknown_any ((HS.out.below HB.out).below bc) hid)
        have HB1 := Lib.hid (Below.after HB.out bc)
        clear hc bc kc
        go_wp2_with fail
        refine HUK.out.mono ?_; rintro e w ⟨rfl, h⟩; rw [h]; clear h w
        clear hz hs1 p0 p1 p2 f0 f1 f2 q0 q1 q2 y0 y1 y2 hgc
        go_wp2_with fail
        go_roundw
        case rel => exact ⟨i + 1, by go_num, by omega, HB1.out⟩
        case measure => first | (simp [intOf]; omega) | simp [intOf]
      · have hlt2 : ¬ (i : Int) < (L.length : Int) := by omega
        clear hlt hi
        go_wp2_with fail
        go_loopw [9, 33] (fun lv iv wr => ∃ (j : Nat) (last : Int), iv = .int .i64 j ∧ lv = .int .i64 last ∧ j ≤ L.length ∧ last = endF (-1) (L.take j) ∧ formF len (-1) (L.take j) = true ∧ -1 ≤ last ∧ last ≤ len ∧ Below W.heap.size W wr) (fun _ iv _ => L.length - (intOf iv).toNat)
        case atStart => exact ⟨0, -1, rfl, rfl, Nat.zero_le _, rfl, rfl, by omega, by have := HH0.out; omega, HB.out⟩
        case round =>
          clear HB
          obtain ⟨j, last, rfl, rfl, hj, hlast, hform, hl1, hl2, hB⟩ := hrel
          have HB := Lib.hid hB; have HLA := Lib.hid hlast; have HFO := Lib.hid hform
          clear hB hlast hform
          by_cases hlt : j < L.length
          · have hlt2 : (j : Int) < (L.length : Int) := by omega
            have hlt3 : (0 : Int) ≤ (j : Int) := by omega
            obtain ⟨g, cap, hv, -, -, hc⟩ := HC.out.at hlt
            simp only [Value.slice.injEq] at hv
            obtain ⟨rfl, -, rfl⟩ := hv
            obtain ⟨q0, q1, q2⟩ := hc wr HB.out j hlt
            have HNX : Hid (formF len (-1) (L.take (j + 1)) = chgOk len last L[j] ∧ endF (-1) (L.take (j + 1)) = L[j].pos + L[j].n) := Lib.hid (by
              rw [take_snoc hlt, formF_snoc, HFO.out, ← HLA.out, endF_snoc]
              exact ⟨by simp, rfl⟩)
            generalize L[j] = c at *
            obtain ⟨wz, w1, hz, hs1, kc, bc, ⟨p0, p1, p2⟩, f0, f1, f2⟩ := newCh wr c
            obtain ⟨gc, hgc⟩ : ∃ x, wr.heap.size = x := ⟨_, rfl⟩
            rw [hgc] at hs1 p0 p1 p2 f0 f1 f2 kc
            obtain ⟨y0, y1, y2⟩ := kc.cells
            have HRG := Lib.hid (rng_any w1 c.pos c.n len)
            have HB1 := Lib.hid (Below.after HB.out bc)
            have HBAD : Hid (chgOk len last c = false → res = 4) := Lib.hid (fun hb => by
              have h1 := HNX.out.1
              rw [hb] at h1
              have h2 : formF len (-1) L = false := by
                cases hh : formF len (-1) L with
                | false => rfl
                | true => rw [formF_take hh (j + 1)] at h1; cases h1
              rw [← HR.out]
              unfold chkF maxL
              rw [if_neg (by have := HH0.out; omega), h2]; rfl)
            clear hc bc kc
            cases hrg : rngB c.pos c.n len with
            | false =>
              rw [hrg] at HRG
              have e4 := HBAD.out (by unfold chgOk; rw [hrg]; rfl)
              have HE4 := Lib.hid e4
              simp only [Bool.false_eq_true, if_false] at HRG
              unfold err at HRG
              clear hrg e4
              go_wp2_with fail
              refine HRG.out.mono ?_; rintro e w ⟨rfl, h⟩; rw [h]; clear h w
              go_wp2_with fail
              go_ret
              exact ⟨by rw [HE4.out]; rfl, HB1.out⟩
            | true =>
              rw [hrg] at HRG
              simp only [if_true] at HRG
              obtain ⟨r1, r2, r3, r4, r5, r6⟩ := rngB_iff.1 hrg
              unfold maxL at r2
              have hws : IntKind.i64.wrap (c.pos + c.n) = c.pos + c.n := by rw [IntKind.wrap_i64]; omega
              by_cases hpl : c.pos ≤ last
              · have e4 := HBAD.out (by unfold chgOk; rw [hrg, decide_eq_true hpl]; rfl)
                have HE4 := Lib.hid e4
                clear hrg e4 r1 r2 r3 r4 r5 r6 hws
                go_wp2_with fail
                refine HRG.out.mono ?_; rintro e w ⟨rfl, h⟩; rw [h]; clear h w
                go_wp2_with fail
                go_ret
                exact ⟨by rw [HE4.out]; rfl, HB1.out⟩
              · by_cases hn0 : c.n = 0
                · have hnb : (c.n == 0) = true := by simp [hn0]
                  by_cases hi0 : c.id = 0
                  · have hib : ((c.id : Int) == 0) = true := by simp [hi0]
                    have e4 := HBAD.out (by unfold chgOk; rw [hrg, decide_eq_true hn0, decide_eq_true hi0]; simp)
                    have HE4 := Lib.hid e4
                    clear hrg e4 r1 r2 r3 r4 r5 r6 hws hn0 hi0
                    go_wp2_with fail
                    refine HRG.out.mono ?_; rintro e w ⟨rfl, h⟩; rw [h]; clear h w
                    go_wp2_with fail
                    go_ret
                    exact ⟨by rw [HE4.out]; rfl, HB1.out⟩
                  · have hib : ((c.id : Int) == 0) = false := by simp [hi0]
                    have HOK : Hid (chgOk len last c = true) := Lib.hid (by unfold chgOk; rw [hrg, decide_eq_false hpl, decide_eq_false hi0]; simp)
                    have HRB : Hid (-1 ≤ c.pos + c.n ∧ c.pos + c.n ≤ len) := Lib.hid ⟨by omega, by omega⟩
                    clear hrg r1 r2 r3 r4 r5 r6 hn0 hi0
                    go_wp2_with fail
                    refine HRG.out.mono ?_; rintro e w ⟨rfl, h⟩; rw [h]; clear h w
                    go_wp2_with fail
                    clear hz hs1 p0 p1 p2 f0 f1 f2 q0 q1 q2 y0 y1 y2 hgc hws
                    go_roundw
                    case rel => exact ⟨j + 1, c.pos + c.n, by go_num, rfl, by omega, HNX.out.2.symm, by rw [HNX.out.1]; exact HOK.out, HRB.out.1, HRB.out.2, HB1.out⟩
                    case measure => first | (simp [intOf]; omega) | simp [intOf]
                · have hnb : (c.n == 0) = false := by simp [hn0]
                  have HOK : Hid (chgOk len last c = true) := Lib.hid (by unfold chgOk; rw [hrg, decide_eq_false hpl, decide_eq_false hn0]; simp)
                  have HRB : Hid (-1 ≤ c.pos + c.n ∧ c.pos + c.n ≤ len) := Lib.hid ⟨by omega, by omega⟩
                  clear hrg r1 r2 r3 r4 r5 r6 hn0
                  go_wp2_with fail
                  refine HRG.out.mono ?_; rintro e w ⟨rfl, h⟩; rw [h]; clear h w
                  go_wp2_with fail
                  clear hz hs1 p0 p1 p2 f0 f1 f2 q0 q1 q2 y0 y1 y2 hgc hws
                  go_roundw
                  case rel => exact ⟨j + 1, c.pos + c.n, by go_num, rfl, by omega, HNX.out.2.symm, by rw [HNX.out.1]; exact HOK.out, HRB.out.1, HRB.out.2, HB1.out⟩
                  case measure => first | (simp [intOf]; omega) | simp [intOf]
          · have hlt2 : ¬ (j : Int) < (L.length : Int) := by omega
            have HE0 : Hid (res = 0) := Lib.hid (by
              have h := HFO.out
              rw [List.take_of_length_le (by omega)] at h
              rw [← HR.out]
              unfold chkF maxL
              rw [if_neg (by have := HH0.out; omega), h]; rfl)
            clear hlt hl1 hl2
            go_wp2_with fail
            refine (HPB.out wr HB.out).mono ?_; rintro e w2 ⟨rfl, b2⟩
            have HB2 := Lib.hid (Below.after HB.out b2)
            clear b2
            go_wp2_with fail
            go_ret
            exact ⟨by rw [HE0.out]; rfl, HB2.out⟩
  · rw [decide_eq_false h0] at HV
    have HE1 : Hid (res = 1) := Lib.hid (by rw [← HR.out]; unfold chkF maxL; rw [if_pos h0])
    clear h0
    go_enter Try.func44, Try.ntmps44
    go_wp2_with fail
    refine HV.out.mono ?_; rintro e w ⟨rfl, h⟩; rw [h]; clear h w
    go_wp2_with fail
    go_ret
    exact ⟨by rw [HE1.out]; rfl, Below.refl _ _⟩
end M
end Go.Proofs.Ytplccefjljdjnaa
