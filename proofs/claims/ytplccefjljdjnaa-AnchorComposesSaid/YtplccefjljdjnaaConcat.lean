/- balance.Concat: a balanced ID of texts, one after the other. -/
import Derived.Test.YtplccefjljdjnaaCutB
set_option linter.unusedVariables false
set_option linter.unusedSimpArgs false
namespace Go.Proofs.Ytplccefjljdjnaa
open Go.RowKit Go.Lib
namespace M
attribute [local go_sem] Oper.semAt_some
/-- IDs of balanced texts. -/
def BalL (E : List En) (ids : List Nat) (ts : List (List Nat)) : Prop := ids.length = ts.length ∧ ∀ j (h : j < ids.length) (h2 : j < ts.length), Bal0 E ids[j] ts[j]
theorem BalL.ext {A B : List En} {ids : List Nat} {ts : List (List Nat)} (h : BalL A ids ts) (hx : Ext A B) : BalL B ids ts := ⟨h.1, fun j h1 h2 => (h.2 j h1 h2).ext hx⟩
/-- The lengths of texts. -/
def lnsT (ts : List (List Nat)) : List Nat := ts.map List.length
theorem lnsT_sum : ∀ (ts : List (List Nat)), (lnsT ts).sum = ts.flatten.length
  | [] => rfl
  | t :: ts => by
    have := lnsT_sum ts
    unfold lnsT at this ⊢
    rw [List.map_cons, List.sum_cons, this, List.flatten_cons, List.length_append]
theorem lnsT_take {ts : List (List Nat)} {j : Nat} (h : j < ts.length) : lnsT (ts.take (j + 1)) = lnsT (ts.take j) ++ [ts[j].length] := by
  unfold lnsT
  rw [List.take_succ_eq_append_getElem h, List.map_append]; rfl
theorem flat_take {ts : List (List Nat)} {j : Nat} (h : j < ts.length) : (ts.take (j + 1)).flatten = (ts.take j).flatten ++ ts[j] := by
  rw [List.take_succ_eq_append_getElem h, List.flatten_append]; simp
theorem flat_le (ts : List (List Nat)) (j : Nat) : (ts.take j).flatten.length ≤ ts.flatten.length := by
  conv => rhs; rw [← List.take_append_drop j ts, List.flatten_append, List.length_append]
  omega
set_option maxRecDepth 100000 in
set_option maxHeartbeats 8000000 in
theorem concat_any {D M : Nat} (hD : Dep D M) {n0 B most b0 : Nat} {W : World} {E : List En} {v : Value} {ids : List Nat} {ts : List (List Nat)} (hs : StAt n0 W B most E) (hwf : WfD E) (hv : Ids b0 W v ids) (hb : BalL E ids ts) (hM : ts.flatten.length ≤ M) (hn : ids.length ≤ 1000)
    (hroom : E.length + ids.length * (3 * D + 1) ≤ most) (hE : E.length + ids.length * (3 * D + 1) ≤ 1048576) :
    Calls Try.prog 61 #[.pointer (some ⟨B, 0, none⟩), v] W (JnP n0 B most (ids.length * (3 * D + 1)) E W ts.flatten) := by
  have hE' : E.length ≤ 1048576 := by omega
  have hn0 := hs.lt
  have hM60 := hD.2
  obtain ⟨va, vc, rfl⟩ := hv.len
  have HS := Lib.hid hs; have HWF := Lib.hid hwf; have HB := Lib.hid hb; have HV := Lib.hid hv; have HN0 := Lib.hid hn0
  have HNN := Lib.hid (And.intro hM (And.intro hroom (And.intro hE (And.intro hM60 hE'))))
  clear hs hwf hb hv hM hroom hE hE' hn0 hM60
  have hmk : ∀ w, (Instr.makeSlice 49 (.int .i64 0) (.int .i64 (ids.length : Int))).run Try.prog w = .ok (.slice (some ⟨w.heap.size, 0, none⟩) 0 ids.length) (w.alloc (.cells (madeCells #[Value.int .i64 0] ids.length) 3)) := fun w => by
    have := mk_run (P := Try.prog) (w := w) Try.underlying49 (e := 3) (z := .int .i64 0) (size := 1) (bytes := 8) (by kernel_rfl) 0 ids.length (by omega) (by omega) (by omega)
    rw [Nat.mul_one] at this
    exact this
  obtain ⟨w2, hw2⟩ : ∃ w, W.alloc (.cells (madeCells #[Value.int .i64 0] ids.length) 3) = w := ⟨_, rfl⟩
  have b2 : Below W.heap.size W w2 := by rw [← hw2]; exact (Below.refl _ _).alloc (Nat.le_refl _) _
  have s2 : Nts W.heap.size w2 (.slice (some ⟨W.heap.size, 0, none⟩) 0 ids.length) [] := by rw [← hw2]; exact sla_made W _ _ _ (by unfold maxLen; omega)
  have B2 := Lib.hid b2
  have S2 := Lib.hid s2
  clear b2 s2
  go_enter Try.func61, Try.ntmps61
  go_wp2_with fail
  clear hmk hw2
  go_loopw [6, 27] (fun p c wr => ∃ j : Nat, j ≤ ids.length ∧ c = .int .i64 j ∧ Nts W.heap.size wr p (lnsT (ts.take j)) ∧ Below W.heap.size W wr) (fun _ c _ => ids.length - (intOf c).toNat)
  case atStart => exact ⟨0, Nat.zero_le _, rfl, S2.out, B2.out⟩
  case round =>
    obtain ⟨j, hj, rfl, hI, hbw⟩ := hrel
    obtain ⟨pa, pc, hpv⟩ := hI.len
    have hll : (lnsT (ts.take j)).length = j := by unfold lnsT; rw [List.length_map, List.length_take]; have := HB.out.1; omega
    rw [hll] at hpv
    subst hpv
    have HBW := Lib.hid hbw; have HI := Lib.hid hI; have HLL := Lib.hid hll
    clear hbw hI hll
    by_cases hlt : j < ids.length
    · have hlt2 : (j : Int) < (ids.length : Int) := by omega
      have HLT := Lib.hid hlt
      obtain ⟨g, cap, e1, k0⟩ := nts_at (SlA.below HV.out HBW.out) hlt
      simp only [Value.slice.injEq] at e1
      obtain ⟨rfl, -, rfl⟩ := e1
      have hjt : j < ts.length := by have := HB.out.1; omega
      have hbal := HB.out.2 j hlt hjt
      have HTK := Lib.hid (lnsT_take hjt)
      have HEV := Lib.hid (balanced_any (HS.out.below HBW.out) hbal.le HNN.out.2.2.2.2)
      rw [hbal.even] at HEV
      have HWT := Lib.hid (fun w (hw : Below wr.heap.size wr w) => weight_any ((HS.out.below HBW.out).below hw) hbal.le HNN.out.2.2.2.2)
      have hwl := (hbal.len HWF.out).2
      obtain ⟨uw, huw⟩ : ∃ u, (entAt E (ids[j]'hlt)).w = u := ⟨_, rfl⟩
      rw [huw] at HWT hwl
      unfold wtV at HWT
      have HWL := Lib.hid hwl
      generalize ids[j]'hlt = id at *
      clear hbal hwl huw
      go_wp2_with fail
      refine HEV.out.mono ?_; rintro e w3 ⟨rfl, b3⟩
      have B3 := Lib.hid b3; clear b3
      go_wp2_with fail
      refine (HWT.out w3 B3.out).mono ?_; rintro e w4 ⟨rfl, b4⟩
      obtain ⟨wz, w5, hz, hs1, kw, bw, ⟨p0, p1, p2, p3, p4, p5⟩, q0, q1, q2, q3, q4, q5⟩ := newWt w4 uw
      obtain ⟨gc, hgc⟩ : ∃ g, w4.heap.size = g := ⟨_, rfl⟩
      rw [hgc] at hs1 kw p0 p1 p2 p3 p4 p5 q0 q1 q2 q3 q4 q5
      obtain ⟨x0, x1, x2, x3, x4, x5⟩ := kw.cells
      have HB5 := Lib.hid (Below.after B3.out (Below.after b4 bw)); have KU := Lib.hid kw
      have HI5 := Lib.hid (SlA.below HI.out HB5.out)
      have hlo5 : W.heap.size ≤ w5.heap.size := Nat.le_trans HBW.out.size HB5.out.size
      have hl5 : (lnsT (ts.take j)).length + 1 ≤ 2000 := by rw [HLL.out]; omega
      clear b4 kw bw
      rw [HWL.out] at x0
      go_wp2_with (first
        | (at_builtin; refine wp_app1G (v := .slice pa j pc) elemNt encNt_len rfl _ _ rfl rfl HI5.out (ts[j]'(by have := HB.out.1; have := HLT.out; omega)).length rfl rfl ?c1 ?c2 hlo5 ?_))
      case c1 => simp [encNt, Value.oneCell']
      case c2 => omega
      intro v6 w6 hS6 hg6 hb6
      have HS6 := Lib.hid hS6
      have HB6 := Lib.hid ((HBW.out.trans (HB5.out.mono HBW.out.size)).trans hb6)
      clear hS6 hg6 hb6 k0 hz hs1 p0 p1 p2 p3 p4 p5 q0 q1 q2 q3 q4 q5 x0 x1 x2 x3 x4 x5 hgc
      go_wp2_with fail
      go_roundw
      case rel => exact ⟨j + 1, HLT.out, by go_num, by rw [HTK.out]; exact HS6.out, HB6.out⟩
      case measure => have := HLT.out; simp [intOf]; omega
    · obtain rfl : j = ids.length := by omega
      have htk : ts.take ids.length = ts := by rw [HB.out.1, List.take_length]
      have hsum := lnsT_sum ts
      have HSU := Lib.hid (sum_any HI.out (by rw [HLL.out]; omega) (by rw [htk, hsum]; have := HNN.out; omega))
      clear htk hsum
      go_wp2_with fail
      refine HSU.out.mono ?_; rintro e w ⟨rfl, h⟩; rw [h]; clear h w
      go_wp2_with fail
      go_loopw [14, 68] (fun r c w => ∃ (k : Nat) (E1 : List En) (i : Nat), k ≤ ids.length ∧ c = .int .i64 k ∧ r = .int .i64 i ∧ StAt n0 w B most E1 ∧ WfD E1 ∧ Ext E E1 ∧ E1.length ≤ E.length + k * (3 * D + 1) ∧ Bal0 E1 i (ts.take k).flatten ∧ Below n0 W w ∧ Kt W w) (fun _ c _ => ids.length - (intOf c).toNat)
      case atStart => exact ⟨0, E, 0, Nat.zero_le _, rfl, rfl, HS.out.below HBW.out, HWF.out, Ext.refl _, by omega, ⟨Nat.zero_le _, by rw [txt_zero]; simp, rfl⟩, HBW.out.mono HN0.out, Kt.of HBW.out⟩
      case round =>
        obtain ⟨k, E1, i, hk, rfl, rfl, hs1, hwf1, hx1, hn1, hbl, hbw, hkt⟩ := hrel
        by_cases hlt3 : k < ids.length
        · have hlt4 : (k : Int) < (ids.length : Int) := by omega
          obtain ⟨g, cap, e1, k0⟩ := nts_at (SlA.keep HV.out (hkt.keepT (by decide) (by decide))) hlt3
          simp only [Value.slice.injEq] at e1
          obtain ⟨rfl, -, rfl⟩ := e1
          have hkt2 : k < ts.length := by have := HB.out.1; omega
          have hbk := (HB.out.2 k hlt3 hkt2).ext hx1
          have hft := flat_take hkt2
          have hfl := flat_le ts (k + 1)
          rw [hft, List.length_append] at hfl
          have hnn := HNN.out
          have hmul : (k + 1) * (3 * D + 1) ≤ ids.length * (3 * D + 1) := Nat.mul_le_mul_right _ (by omega)
          have hsucc : (k + 1) * (3 * D + 1) = k * (3 * D + 1) + (3 * D + 1) := Nat.succ_mul _ _
          have HJ := Lib.hid (avlJoinD_any hD hs1 hwf1 hbl hbk (by omega) (by omega) (by omega))
          rw [← hft] at HJ
          have HR := Lib.hid (And.intro hlt3 (And.intro hx1 (And.intro hn1 (And.intro hbw (And.intro hkt hsucc)))))
          generalize ids[k]'hlt3 = id at *
          clear hs1 hwf1 hx1 hn1 hbl hbw hkt hbk hft hfl hnn hmul hsucc hkt2
          go_wp2_with fail
          refine HJ.out.mono ?_
          rintro e w3 ⟨E3, i3, rfl, s3, f3, x3, n3, bl3, bb3, kt3⟩
          have HX3 := Lib.hid (And.intro s3 (And.intro f3 (And.intro x3 (And.intro n3 (And.intro bl3 (And.intro bb3 kt3))))))
          clear s3 f3 x3 n3 bl3 bb3 kt3 k0
          go_wp2_with fail
          go_roundw
          case rel =>
            obtain ⟨r1, r2, r3, r4, r5, r6⟩ := HR.out
            obtain ⟨s3, f3, x3, n3, bl3, bb3, kt3⟩ := HX3.out
            exact ⟨k + 1, E3, i3, r1, by go_num, rfl, s3, f3, r2.trans x3, by omega, bl3, r4.trans bb3, r5.trans kt3⟩
          case measure => have := HR.out.1; simp [intOf]; omega
        · obtain rfl : k = ids.length := by omega
          have htk : ts.take ids.length = ts := by rw [HB.out.1, List.take_length]
          rw [htk] at hbl
          have HFIN : Hid (JnP n0 B most (ids.length * (3 * D + 1)) E W ts.flatten (.returned (.tuple #[.int .i64 (i : Nat), .nilIface])) wr) := Lib.hid ⟨E1, i, rfl, hs1, hwf1, hx1, hn1, hbl, hbw, hkt⟩
          clear hs1 hwf1 hx1 hn1 hbl hbw hkt htk
          go_wp2_with fail
          go_ret2
          exact HFIN.out
end M
end Go.Proofs.Ytplccefjljdjnaa
