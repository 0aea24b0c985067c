/- split.Cut: the parts of a text between offsets. -/
import Derived.Test.YtplccefjljdjnaaCut
set_option linter.unusedVariables false
set_option linter.unusedSimpArgs false
namespace Go.Proofs.Ytplccefjljdjnaa
open Go.RowKit Go.Lib
namespace M
attribute [local go_sem] Oper.semAt_some
def cutB (os : List Nat) (j : Nat) : Nat := if j = 0 then 0 else os.getD (j - 1) 0
def cutE (os : List Nat) (len j : Nat) : Nat := os.getD j len
/-- Part j of a text that is cut at offsets. -/
def partF (t : List Nat) (os : List Nat) (j : Nat) : List Nat := (t.drop (cutB os j)).take (cutE os t.length j - cutB os j)
theorem cutB_succ (os : List Nat) {j : Nat} (h : j < os.length) : cutB os (j + 1) = os[j] := by
  unfold cutB
  rw [if_neg (by omega), Nat.add_sub_cancel, List.getD_eq_getElem?_getD, List.getElem?_eq_getElem h]; rfl
theorem cutE_at (os : List Nat) (len : Nat) {j : Nat} (h : j < os.length) : cutE os len j = os[j] := by
  unfold cutE
  rw [List.getD_eq_getElem?_getD, List.getElem?_eq_getElem h]; rfl
theorem cutE_end (os : List Nat) (len : Nat) {j : Nat} (h : os.length ≤ j) : cutE os len j = len := by
  unfold cutE
  rw [List.getD_eq_getElem?_getD, List.getElem?_eq_none h]; rfl
/-- Offsets in order, none beyond. -/
def CutOk (os : List Nat) (len : Nat) : Prop := ∀ j (h : j < os.length), cutB os j ≤ os[j] ∧ os[j] ≤ len
theorem CutOk.at {os : List Nat} {len : Nat} (h : CutOk os len) {j : Nat} (hj : j ≤ os.length) : cutB os j ≤ cutE os len j ∧ cutE os len j ≤ len := by
  by_cases hlt : j < os.length
  · rw [cutE_at os len hlt]; exact h j hlt
  · rw [cutE_end os len (by omega)]
    refine ⟨?_, Nat.le_refl _⟩
    unfold cutB
    split
    · omega
    · have hp : j - 1 < os.length := by omega
      rw [List.getD_eq_getElem?_getD, List.getElem?_eq_getElem hp]
      exact (h _ hp).2
theorem Kt.then {W A C : World} (h : Kt W A) (hb : Below W.heap.size A C) : Kt W C := fun t h1 h2 k cs fz e => by
  rw [hb.block k (Array.getElem?_eq_some_iff.1 e).1]; exact h t h1 h2 k cs fz e
theorem Kt.keepT {A C : World} (h : Kt A C) {t : TypeId} (h1 : t ≠ 91) (h2 : t ≠ 121) : KeepT t A C := fun k cs fz e => h t h1 h2 k cs fz e
/-- What Cut leaves. -/
def CutP (n0 B most k : Nat) (E : List En) (W : World) (t os : List Nat) (e : Ending) (w' : World) : Prop :=
  ∃ E' ids v', e = .returned (.tuple #[v', .nilIface]) ∧ StAt n0 w' B most E' ∧ WfD E' ∧ Ext E E' ∧ E'.length ≤ E.length + k ∧ Ids W.heap.size w' v' ids ∧ ids.length = os.length + 1 ∧ (∀ j (h : j < ids.length), Bal0 E' ids[j] (partF t os j)) ∧ Below n0 W w' ∧ Kt W w'
set_option maxRecDepth 100000 in
set_option maxHeartbeats 8000000 in
theorem cut_any {D M : Nat} (hD : Dep D M) {n0 B most b0 : Nat} {W : World} {E : List En} {i : Nat} {t : List Nat} {v : Value} {os : List Nat} (hs : StAt n0 W B most E) (hwf : WfD E) (hb : Bal0 E i t) (hM : t.length ≤ M) (hv : Nts b0 W v os) (hos : CutOk os t.length) (hn : os.length ≤ 1000)
    (hroom : E.length + (os.length + 1) * secK D ≤ most) (hE : E.length + (os.length + 1) * secK D ≤ 1048576) :
    Calls Try.prog 60 #[.pointer (some ⟨B, 0, none⟩), .int .i64 i, v] W (CutP n0 B most ((os.length + 1) * secK D) E W t os) := by
  have hE' : E.length ≤ 1048576 := by omega
  have hn0 := hs.lt
  have hM60 := hD.2
  obtain ⟨va, vc, rfl⟩ := hv.len
  have HCK := Lib.hid (scheck_any hs hwf hb hE')
  have HS := Lib.hid hs; have HWF := Lib.hid hwf; have HB := Lib.hid hb; have HV := Lib.hid hv; have HOS := Lib.hid hos; have HN0 := Lib.hid hn0
  have HNN := Lib.hid (And.intro hM (And.intro hroom (And.intro hE hn)))
  obtain ⟨tl, htl⟩ : ∃ n, t.length = n := ⟨_, rfl⟩
  have HTL := Lib.hid htl
  rw [htl] at HCK
  have htb : tl ≤ 1152921504606846976 := by omega
  clear hs hwf hb hv hos hM hroom hE hE' hn0 hM60 htl
  go_enter Try.func60, Try.ntmps60
  go_wp2_with fail
  refine HCK.out.mono ?_; rintro e w1 ⟨rfl, b1⟩
  have B1 := Lib.hid b1; clear b1
  go_wp2_with fail
  go_loop [10, 30] (fun u c => ∃ j : Nat, j ≤ os.length ∧ c = .int .i64 j ∧ u = .int .i64 (cutB os j : Nat)) (fun _ c => os.length - (intOf c).toNat)
  case atStart => exact ⟨0, Nat.zero_le _, rfl, rfl⟩
  case round =>
    obtain ⟨j, hj, rfl, rfl⟩ := hrel
    by_cases hlt : j < os.length
    · have hlt2 : (j : Int) < (os.length : Int) := by omega
      obtain ⟨g, cap, e1, k0⟩ := nts_at (SlA.below HV.out B1.out) hlt
      simp only [Value.slice.injEq] at e1
      obtain ⟨rfl, -, rfl⟩ := e1
      have hok := HOS.out j hlt
      rw [HTL.out] at hok
      have hnx := cutB_succ os hlt
      have HNX := Lib.hid hnx
      have HLT := Lib.hid hlt
      clear hnx
      obtain ⟨x, hx⟩ : ∃ x, os[j]'hlt = x := ⟨_, rfl⟩
      generalize os[j]'hlt = y at *
      generalize hq : cutB os j = q at *
      clear hq hx
      have h1 : ¬ (y : Int) < (q : Int) := by omega
      have h2 : ¬ (y : Int) > (tl : Int) := by omega
      have h3 : ¬ y < q := by omega
      have h4 : ¬ tl < y := by omega
      go_wp2_with fail
      go_round
      case rel => exact ⟨j + 1, HLT.out, by go_num, by rw [HNX.out]⟩
      case measure => have := HLT.out; simp [intOf]; omega
    · obtain rfl : j = os.length := by omega
      have hmk : ∀ w, (Instr.makeSlice 128 (.int .i64 0) (.int .i64 ((os.length : Int) + 1))).run Try.prog w = .ok (.slice (some ⟨w.heap.size, 0, none⟩) 0 (os.length + 1)) (w.alloc (.cells (madeCells #[Value.int .i64 0] (os.length + 1)) 65)) := fun w => by
        have := mk_run (P := Try.prog) (w := w) Try.underlying128 (e := 65) (z := .int .i64 0) (size := 1) (bytes := 8) (by kernel_rfl) 0 (os.length + 1) (by omega) (by omega) (by omega)
        rw [Nat.mul_one, Int.natCast_add] at this
        exact this
      obtain ⟨w2, hw2⟩ : ∃ w, w1.alloc (.cells (madeCells #[Value.int .i64 0] (os.length + 1)) 65) = w := ⟨_, rfl⟩
      have b2 : Below w1.heap.size w1 w2 := by rw [← hw2]; exact (Below.refl _ _).alloc (Nat.le_refl _) _
      have s2 : Ids w1.heap.size w2 (.slice (some ⟨w1.heap.size, 0, none⟩) 0 (os.length + 1)) [] := by rw [← hw2]; exact sla_made w1 _ _ _ (by unfold maxLen; omega)
      have B2 := Lib.hid (Below.after B1.out b2)
      have S2 : Hid (Ids W.heap.size w2 (.slice (some ⟨w1.heap.size, 0, none⟩) 0 (os.length + 1)) []) := Lib.hid (s2.mono B1.out.size)
      clear b2 s2
      go_wp2_with fail
      clear hmk hw2
      go_loopw [13, 14, 15] (fun p u c wr => ∃ (j : Nat) (E1 : List En) (ids : List Nat), j ≤ os.length + 1 ∧ c = .int .i64 j ∧ (∃ z : Nat, u = .int .i64 z ∧ (j ≤ os.length → z = cutB os j)) ∧ Ids W.heap.size wr p ids ∧ ids.length = j ∧ StAt n0 wr B most E1 ∧ WfD E1 ∧ Ext E E1 ∧ E1.length ≤ E.length + j * secK D ∧ (∀ q (h : q < ids.length), Bal0 E1 ids[q] (partF t os q)) ∧ Below n0 W wr ∧ Kt W wr) (fun _ _ c _ => os.length + 1 - (intOf c).toNat)
      case atStart => exact ⟨0, E, [], Nat.zero_le _, rfl, ⟨0, rfl, fun _ => rfl⟩, S2.out, rfl, HS.out.below B2.out, HWF.out, Ext.refl _, by omega, fun q h => by simp at h, B2.out.mono HN0.out, Kt.of B2.out⟩
      case round =>
        obtain ⟨j, E1, ids, hj, rfl, ⟨z, rfl, hz⟩, hI, hil, hs1, hwf1, hx1, hn1, hbs, hbw, hkt⟩ := hrel
        obtain ⟨pa, pc, hpv⟩ := hI.len
        rw [hil] at hpv
        subst hpv
        by_cases hlt : j ≤ os.length
        · have hlt2 : (j : Int) ≤ (os.length : Int) := by omega
          obtain rfl := hz hlt
          have hcut := HOS.out.at hlt
          rw [HTL.out] at hcut
          have hx0 := hx1
          have hbi := HB.out.ext hx1
          have hmul : (j + 1) * secK D ≤ (os.length + 1) * secK D := Nat.mul_le_mul_right _ (by omega)
          have hsucc : (j + 1) * secK D = j * secK D + secK D := Nat.succ_mul _ _
          have hnn := HNN.out
          have hlo : W.heap.size ≤ wr.heap.size := hbw.size
          have HSEC := Lib.hid (secn_any hD hs1 hwf1 hbi (f := cutB os j) (n := cutE os tl j - cutB os j) (by rw [HTL.out]; omega) hnn.1 (by omega) (by omega))
          rw [show (t.drop (cutB os j)).take (cutE os tl j - cutB os j) = partF t os j by unfold partF; rw [HTL.out]] at HSEC
          have HR := Lib.hid (And.intro hI (And.intro hil (And.intro hx1 (And.intro hn1 (And.intro hbs (And.intro hbw (And.intro hkt (And.intro hsucc hlo))))))))
          have hsub : IntKind.i64.wrap (((cutE os tl j : Nat) : Int) - ((cutB os j : Nat) : Int)) = ((cutE os tl j - cutB os j : Nat) : Int) := by rw [IntKind.wrap_i64]; omega
          by_cases hlt3 : j < os.length
          · have hlt4 : (j : Int) < (os.length : Int) := by omega
            obtain ⟨g, cap, e1, k0⟩ := nts_at (SlA.keep HV.out (hkt.keepT (by decide) (by decide))) hlt3
            simp only [Value.slice.injEq] at e1
            obtain ⟨rfl, -, rfl⟩ := e1
            have hce := cutE_at os tl hlt3
            have HNX := Lib.hid (cutB_succ os hlt3)
            have HJ := Lib.hid hlt3
            rw [← hce] at k0 HNX
            generalize cutE os tl j = ce at *
            generalize cutB os j = cb at *
            generalize ce - cb = cn at *
            clear hI hil hs1 hwf1 hx1 hn1 hbs hbw hkt hcut hbi hmul hsucc hnn hlo hce hx0
            go_wp2_with fail
            refine HSEC.out.mono ?_
            rintro e w3 ⟨E3, i3, rfl, s3, f3, x3, n3, bl3, bb3, kt3⟩
            have HS3 := Lib.hid s3
            have hI3 : Ids W.heap.size w3 (.slice pa j pc) ids := HR.out.1.keep (kt3.keepT (by decide) (by decide))
            have HI3 := Lib.hid hI3
            have HX3 := Lib.hid (And.intro f3 (And.intro x3 (And.intro n3 (And.intro bl3 (And.intro bb3 kt3)))))
            have hi3 : ids.length + 1 ≤ 2000 := by have := HR.out.2.1; have := HJ.out; omega
            have hlo3 : W.heap.size ≤ w3.heap.size := Nat.le_trans HR.out.2.2.2.2.2.2.2.2 bb3.size
            clear s3 f3 x3 n3 bl3 bb3 kt3 hI3
            go_wp2_with (first
              | (at_builtin; refine wp_app1G (v := .slice pa j pc) elemId encNt_len rfl _ _ rfl rfl HI3.out i3 rfl rfl ?c1 ?c2 hlo3 ?_))
            case c1 => simp [encNt, Value.oneCell']
            case c2 => omega
            intro v4 w4 hS4 hg4 hb4
            have HS4 := Lib.hid hS4
            have HST4 := Lib.hid (HS3.out.app' HI3.out hg4 (by decide) (by decide))
            have HB4 := Lib.hid hb4
            clear hS4 hg4 hb4 k0
            go_wp2_with fail
            go_roundw
            case rel =>
              obtain ⟨r1, r2, r3, r4, r5, r6, r7, r8, r9⟩ := HR.out
              obtain ⟨f3, x3, n3, bl3, bb3, kt3⟩ := HX3.out
              refine ⟨j + 1, E3, ids ++ [i3], by have := HJ.out; omega, by go_num, ⟨_, rfl, fun _ => HNX.out.symm⟩, HS4.out, by simp [r2], HST4.out, f3, r3.trans x3, by omega, fun q h => ?_, r6.trans (bb3.trans (HB4.out.mono HN0.out)), (r7.trans kt3).then HB4.out⟩
              by_cases hq : q < ids.length
              · rw [List.getElem_append_left hq]; exact (r5 q hq).ext x3
              · have hqe : q = ids.length := by simp at h; omega
                subst hqe
                rw [List.getElem_append_right (Nat.le_refl _)]
                simp only [Nat.sub_self, List.getElem_cons_zero]
                rw [r2]; exact bl3
            case measure => have := HJ.out; simp [intOf]; omega
          · have hlt4 : ¬ (j : Int) < (os.length : Int) := by omega
            have hje : j = os.length := by omega
            have hce := cutE_end os tl (show os.length ≤ j by omega)
            have HJ := Lib.hid hje
            rw [hce] at HSEC hsub hcut
            generalize cutB os j = cb at *
            generalize tl - cb = cn at *
            clear hI hil hs1 hwf1 hx1 hn1 hbs hbw hkt hcut hbi hmul hsucc hnn hlo hce hx0 hje
            go_wp2_with fail
            refine HSEC.out.mono ?_
            rintro e w3 ⟨E3, i3, rfl, s3, f3, x3, n3, bl3, bb3, kt3⟩
            have HS3 := Lib.hid s3
            have hI3 : Ids W.heap.size w3 (.slice pa j pc) ids := HR.out.1.keep (kt3.keepT (by decide) (by decide))
            have HI3 := Lib.hid hI3
            have HX3 := Lib.hid (And.intro f3 (And.intro x3 (And.intro n3 (And.intro bl3 (And.intro bb3 kt3)))))
            have hi3 : ids.length + 1 ≤ 2000 := by have := HR.out.2.1; have := HJ.out; omega
            have hlo3 : W.heap.size ≤ w3.heap.size := Nat.le_trans HR.out.2.2.2.2.2.2.2.2 bb3.size
            clear s3 f3 x3 n3 bl3 bb3 kt3 hI3
            go_wp2_with (first
              | (at_builtin; refine wp_app1G (v := .slice pa j pc) elemId encNt_len rfl _ _ rfl rfl HI3.out i3 rfl rfl ?c1 ?c2 hlo3 ?_))
            case c1 => simp [encNt, Value.oneCell']
            case c2 => omega
            intro v4 w4 hS4 hg4 hb4
            have HS4 := Lib.hid hS4
            have HST4 := Lib.hid (HS3.out.app' HI3.out hg4 (by decide) (by decide))
            have HB4 := Lib.hid hb4
            clear hS4 hg4 hb4
            go_wp2_with fail
            go_roundw
            case rel =>
              obtain ⟨r1, r2, r3, r4, r5, r6, r7, r8, r9⟩ := HR.out
              obtain ⟨f3, x3, n3, bl3, bb3, kt3⟩ := HX3.out
              refine ⟨j + 1, E3, ids ++ [i3], by have := HJ.out; omega, by go_num, ⟨_, rfl, fun h => absurd h (by have := HJ.out; omega)⟩, HS4.out, by simp [r2], HST4.out, f3, r3.trans x3, by omega, fun q h => ?_, r6.trans (bb3.trans (HB4.out.mono HN0.out)), (r7.trans kt3).then HB4.out⟩
              by_cases hq : q < ids.length
              · rw [List.getElem_append_left hq]; exact (r5 q hq).ext x3
              · have hqe : q = ids.length := by simp at h; omega
                subst hqe
                rw [List.getElem_append_right (Nat.le_refl _)]
                simp only [Nat.sub_self, List.getElem_cons_zero]
                rw [r2]; exact bl3
            case measure => have := HJ.out; simp [intOf]; omega
        · obtain rfl : j = os.length + 1 := by omega
          have hlt2 : ¬ ((os.length + 1 : Nat) : Int) ≤ (os.length : Int) := by omega
          have HFIN : Hid (CutP n0 B most ((os.length + 1) * secK D) E W t os (.returned (.tuple #[.slice pa (os.length + 1) pc, .nilIface])) wr) := Lib.hid ⟨E1, ids, _, rfl, hs1, hwf1, hx1, hn1, hI, hil, hbs, hbw, hkt⟩
          clear hI hil hs1 hwf1 hx1 hn1 hbs hbw hkt hz hj
          go_wp2_with fail
          go_ret2
          exact HFIN.out
end M
end Go.Proofs.Ytplccefjljdjnaa
