/- patch.Apply: the walk. -/
import Derived.Test.YtplccefjljdjnaaAppl
set_option linter.unusedVariables false
set_option linter.unusedSimpArgs false
namespace Go.Proofs.Ytplccefjljdjnaa
open Go.RowKit Go.Lib
namespace M
attribute [local go_sem] Oper.semAt_some
theorem elemIz : Elem Try.prog 49 3 1 8 := elem_of Try.underlying49 (z := .int .i64 0) (by kernel_rfl) rfl (by decide) (by decide)
/-- How many rules a patch of n changes makes at most. -/
def appK (D n : Nat) : Nat := (2 * n + 1) * secK D + (2 * n + 1) * (3 * D + 1)
theorem kt_chs {b0 : Nat} {A C : World} {v : Value} {L : List Chg} (h : Chs b0 A v L) (hk : Kt A C) : Chs b0 C v L := h.keep (hk.keepT (by decide) (by decide))
/-- What Apply leaves. -/
def ApplyP (n0 B most k : Nat) (E : List En) (W : World) (t : List Nat) (L : List Chg) (e : Ending) (w' : World) : Prop :=
  ((lngF E t.length L).2 ≠ 0 ∧ e = .returned (.tuple #[.int .i64 0, err (lngF E t.length L).2]) ∧ Below W.heap.size W w') ∨ ((lngF E t.length L).2 = 0 ∧ JnP n0 B most k E W (patF E t 0 L) e w')
set_option maxRecDepth 100000 in
set_option maxHeartbeats 8000000 in
theorem apply_any {D M : Nat} (hD : Dep D M) {n0 B most b0 : Nat} {W : World} {E : List En} {i : Nat} {t : List Nat} (hs : StAt n0 W B most E) (hwf : WfD E) (hb : Bal0 E i t) {v : Value} {L : List Chg} (hC : Chs b0 W v L) (hT : Txs E L) (hLb : L.length ≤ 100) (hM : t.length + insF E L ≤ M)
    (hroom : E.length + appK D L.length ≤ most) (hE : E.length + appK D L.length ≤ 1048576) :
    Calls Try.prog 37 #[.pointer (some ⟨B, 0, none⟩), .int .i64 i, v] W (ApplyP n0 B most (appK D L.length) E W t L) := by
  have hE' : E.length ≤ 1048576 := by omega
  have hn0 := hs.lt
  have hM60 := hD.2
  have HAP := Lib.hid (applied_any hs hwf hE' hb hC hT (by omega))
  obtain ⟨va, vc, rfl⟩ := hC.len
  have HS := Lib.hid hs; have HWF := Lib.hid hwf; have HB := Lib.hid hb; have HC := Lib.hid hC; have HT := Lib.hid hT; have HN0 := Lib.hid hn0
  have HNN := Lib.hid (And.intro hM (And.intro hroom (And.intro hE (And.intro hM60 hLb))))
  obtain ⟨⟨lv, lc⟩, hlv⟩ : ∃ r, lngF E t.length L = r := ⟨_, rfl⟩
  rw [hlv] at HAP
  dsimp only at HAP
  have HLV := Lib.hid hlv
  unfold ApplyP
  rw [hlv]
  dsimp only
  by_cases hc : lc = 0
  rotate_left
  · have he : errV lc = .iface 54 (.int .i64 lc) := by unfold errV; rw [if_neg hc]; rfl
    have HC0 := Lib.hid hc
    rw [he] at HAP
    clear hs hwf hb hC hT hM hroom hE hE' hn0 hM60 hlv hc he
    go_enter Try.func37, Try.ntmps37
    go_wp2_with fail
    refine HAP.out.mono ?_; rintro e w1 ⟨rfl, b1⟩
    have B1 := Lib.hid b1; clear b1
    go_wp2_with fail
    go_ret2
    exact .inl ⟨HC0.out, rfl, B1.out⟩
  subst hc
  rw [show errV 0 = .nilIface from rfl] at HAP
  have hok := lngF_ok (E := E) (len := t.length) (L := L) (by rw [hlv])
  have HOK := Lib.hid hok
  by_cases h0 : L.length = 0
  · have h0i : ((L.length : Int) == 0) = true := by rw [h0]; rfl
    have hL0 : L = [] := List.eq_nil_of_length_eq_zero h0
    have HFIN : Hid (∀ w, Below W.heap.size W w → JnP n0 B most (appK D L.length) E W (patF E t 0 L) (.returned (.tuple #[.int .i64 (i : Nat), .nilIface])) w) := Lib.hid (fun w hw => ⟨E, i, rfl, hs.below hw, hwf, Ext.refl _, by omega, by rw [hL0]; show Bal0 E i (t.drop 0); rw [List.drop_zero]; exact hb, hw.mono hn0, Kt.of hw⟩)
    generalize L.length = n at *
    clear hs hwf hb hC hT hM hroom hE hE' hn0 hM60 hlv hok h0 hL0
    go_enter Try.func37, Try.ntmps37
    go_wp2_with fail
    refine HAP.out.mono ?_; rintro e w1 ⟨rfl, b1⟩
    have B1 := Lib.hid b1; clear b1
    go_wp2_with fail
    go_ret2
    exact .inr ⟨by first | rfl | trivial, HFIN.out _ B1.out⟩
  have h0i : ((L.length : Int) == 0) = false := beq_eq_false_iff_ne.2 (by omega)
  have HMEM := Lib.hid (formF_mem L (-1) hok.2.2.1)
  have hcut : CutOk (ofsF L) t.length := fun j h => ofsF_ok L (-1) 0 hok.2.2.1 (by omega) (by omega) j h
  have HCT := Lib.hid hcut
  have htl : t.length ≤ 1152921504606846976 := by omega
  have HTL := Lib.hid htl
  clear hs hwf hb hC hT hM hroom hE hE' hn0 hM60 hlv hok hcut htl
  go_enter Try.func37, Try.ntmps37
  go_wp2_with fail
  refine HAP.out.mono ?_; rintro e w1 ⟨rfl, b1⟩
  have B1 := Lib.hid b1; clear b1
  go_wp2_with fail
  go_loopw [10, 33] (fun p c wr => ∃ j : Nat, j ≤ L.length ∧ c = .int .i64 j ∧ SlA W.heap.size wr 3 1 encIz p (ofsZ (L.take j)) ∧ Below W.heap.size W wr) (fun _ c _ => L.length - (intOf c).toNat)
  case atStart => exact ⟨0, Nat.zero_le _, rfl, SlA.nil _ _ _ _ _, B1.out⟩
  case round =>
    obtain ⟨j, hj, rfl, hI, hbw⟩ := hrel
    obtain ⟨pa, pc, rfl⟩ := hI.len
    have hpl : (ofsZ (L.take j)).length = 2 * j := by rw [ofsZ_len, List.length_take]; omega
    obtain ⟨pn, hpn⟩ : ∃ n, (ofsZ (L.take j)).length = n := ⟨_, rfl⟩
    rw [hpn] at hpl
    rw [hpn]
    have HPN := Lib.hid hpn
    have hI' : SlA W.heap.size wr 3 1 encIz (.slice pa pn pc) (ofsZ (L.take j)) := by rw [← hpn]; exact hI
    have HBW := Lib.hid hbw; have HI := Lib.hid hI'; have HPL := Lib.hid hpl
    clear hI hbw hpl hI' hpn
    by_cases hlt : j < L.length
    · have hlt2 : (j : Int) < (L.length : Int) := by omega
      obtain ⟨g, cap, e1, -, -, hcc⟩ := Chs.at (HC.out.below HBW.out) hlt
      simp only [Value.slice.injEq] at e1
      obtain ⟨rfl, -, rfl⟩ := e1
      obtain ⟨m0, m1, m2⟩ := hcc wr (Below.refl _ _) j hlt
      have hmem := HMEM.out _ (List.getElem_mem hlt)
      have HSN := Lib.hid (ofsZ_snoc (L.take j) L[j])
      rw [← take_snoc hlt] at HSN
      have HJ := Lib.hid hlt
      generalize L[j] = c at *
      have hpb : IntKind.i64.wrap (c.pos + c.n) = c.pos + c.n := by rw [IntKind.wrap_i64]; have := HTL.out; omega
      obtain ⟨wz, w2, hz, hs1, kc, bw, ⟨p0, p1, p2⟩, q0, q1, q2⟩ := newCh wr c
      obtain ⟨gc, hgc⟩ : ∃ g, wr.heap.size = g := ⟨_, rfl⟩
      rw [hgc] at hs1 kc p0 p1 p2 q0 q1 q2
      obtain ⟨x0, x1, x2⟩ := kc.cells
      have B2 := Lib.hid bw
      have HI2 := Lib.hid (HI.out.below bw)
      have hlo2 : W.heap.size ≤ w2.heap.size := Nat.le_trans HBW.out.size bw.size
      have hll : (ofsZ (L.take j)).length + 2 ≤ 2000 := by rw [HPN.out, HPL.out]; have := HNN.out; omega
      clear bw kc hcc
      have S3 : Hid (SlA w2.heap.size (w2.alloc (.cells #[.int .i64 c.pos, .int .i64 (c.pos + c.n)] 3)) 3 1 encIz (.slice (some ⟨w2.heap.size, 0, none⟩) 2 2) [c.pos, c.pos + c.n]) := Lib.hid (SlA.lit (l := [c.pos, c.pos + c.n]) encIz_len rfl (by unfold maxLen; simp))
      have hal : Below w2.heap.size w2 (w2.alloc (.cells #[.int .i64 c.pos, .int .i64 (c.pos + c.n)] 3)) := (Below.refl _ _).alloc (Nat.le_refl _) _
      have HI3 := Lib.hid (HI2.out.below hal)
      have HAL := Lib.hid hal
      have hlo3 : W.heap.size ≤ (w2.alloc (.cells #[.int .i64 c.pos, .int .i64 (c.pos + c.n)] 3)).heap.size := Nat.le_trans hlo2 hal.size
      clear hal
      go_wp2_with (first
        | (at_builtin; refine wp_catP (v := .slice pa pn pc) (l2 := [c.pos, c.pos + c.n]) elemIz encIz_len encIz_one rfl _ _ rfl rfl HI3.out rfl rfl S3.out ?c2 hlo3 ?_))
      case c2 => simp only [List.length_cons, List.length_nil]; omega
      intro v4 w4 hS4 hg4 hb4
      have HS4 := Lib.hid hS4
      have HB4 := Lib.hid (((HBW.out.trans (B2.out.mono HBW.out.size)).trans (HAL.out.mono hlo2)).trans hb4)
      clear hS4 hg4 hb4 hz hs1 p0 p1 p2 q0 q1 q2 x0 x1 x2 hgc m0 m1 m2 hlo3 hlo2 hll hmem
      go_wp2_with fail
      go_roundw
      case rel => exact ⟨j + 1, HJ.out, by go_num, by rw [HSN.out]; exact HS4.out, HB4.out⟩
      case measure => have := HJ.out; simp [intOf]; omega
    · obtain rfl : j = L.length := by omega
      have hos : Nts W.heap.size wr (.slice pa pn pc) (ofsF L) := by
        have h1 := HI.out
        rw [List.take_length] at h1
        have h2 := ofsZ_eq (L := L) (fun c hc => ⟨(HMEM.out c hc).1, (HMEM.out c hc).2.1⟩)
        unfold Nts
        unfold SlA at h1 ⊢
        rw [h2, ofsZ_len] at h1
        rw [ofsF_len]
        exact h1
      have hol := ofsF_len L
      have hnn := HNN.out
      unfold appK at hnn
      have hk1 : (2 * L.length + 1) * secK D ≤ (2 * L.length + 1) * secK D := Nat.le_refl _
      have HCUT := Lib.hid (cut_any hD (HS.out.below HBW.out) HWF.out HB.out (by omega) hos HCT.out (by omega) (by rw [hol]; omega) (by rw [hol]; omega))
      rw [hol] at HCUT
      clear hos hol hnn hk1
      go_wp2_with fail
      refine HCUT.out.mono ?_
      rintro e w5 ⟨E5, ids, v5, rfl, s5, f5, x5, n5, i5, il5, bl5, bb5, kt5⟩
      have hid5 : ids.length = 2 * L.length + 1 := by rw [il5, ofsF_len]
      obtain ⟨ia, ic, rfl⟩ := i5.len
      rw [hid5]
      obtain ⟨q5, hq5⟩ : ∃ n, wr.heap.size = n := ⟨_, rfl⟩
      obtain ⟨nl, hnl⟩ : ∃ n, 2 * L.length + 1 = n := ⟨_, rfl⟩
      have HX5 := Lib.hid (And.intro s5 (And.intro f5 (And.intro x5 (And.intro n5 (And.intro il5 bl5)))))
      have HID := Lib.hid hid5
      have HW5 : Hid (Below n0 W w5 ∧ Kt W w5 ∧ W.heap.size ≤ q5) := Lib.hid ⟨(HBW.out.mono HN0.out).trans bb5, (Kt.of HBW.out).trans kt5, by rw [← hq5]; exact HBW.out.size⟩
      have hi5 := i5
      rw [hid5, hq5, hnl] at hi5
      rw [hnl]
      have HI5 := Lib.hid hi5
      have HNL := Lib.hid hnl
      clear s5 f5 x5 n5 i5 il5 bl5 bb5 kt5 hid5 hi5 hq5 hnl
      go_wp2_with fail
      go_loopw [60] (fun c w => ∃ (k : Nat) (ids' : List Nat), k ≤ L.length ∧ c = .int .i64 k ∧ Ids q5 w (.slice ia nl ic) ids' ∧ SetTo L ids ids' k ∧ StAt n0 w B most E5 ∧ Below n0 W w ∧ Kt W w) (fun c _ => L.length - (intOf c).toNat)
      case atStart => exact ⟨0, ids, Nat.zero_le _, rfl, HI5.out, SetTo.zero _ _, HX5.out.1, HW5.out.1, HW5.out.2.1⟩
      case round =>
        obtain ⟨k, ids', hk, rfl, hI6, hst, hs6, hb6, hkt6⟩ := hrel
        have hlen' : ids'.length = nl := by rw [hst.1, HID.out, HNL.out]
        by_cases hlt6 : k < L.length
        · have hlt7 : (k : Int) < (L.length : Int) := by omega
          obtain ⟨g, cap, e1, -, -, hcc⟩ := Chs.at (kt_chs HC.out hkt6) hlt6
          simp only [Value.slice.injEq] at e1
          obtain ⟨rfl, -, rfl⟩ := e1
          obtain ⟨m0, m1, m2⟩ := hcc wr (Below.refl _ _) k hlt6
          have hnl := HNL.out
          obtain ⟨ga, gcap, e2, -⟩ := nts_at hI6 (show 2 * k + 1 < ids'.length by omega)
          rw [hlen'] at e2
          simp only [Value.slice.injEq] at e2
          obtain ⟨rfl, -, rfl⟩ := e2
          have HJ := Lib.hid hlt6
          have HST := Lib.hid (hst.step hlt6 (by rw [HID.out]; omega))
          have hk100 : k < 100 := by have := HNN.out; omega
          generalize L[k] = c at *
          obtain ⟨wz, w2, hz, hs1, kc, bw, ⟨p0, p1, p2⟩, z0, z1, z2⟩ := newCh wr c
          obtain ⟨gc, hgc⟩ : ∃ g, wr.heap.size = g := ⟨_, rfl⟩
          rw [hgc] at hs1 kc p0 p1 p2 z0 z1 z2
          obtain ⟨x0, x1, x2⟩ := kc.cells
          have hI7 := hI6.below bw
          obtain ⟨cur, hown, hqg⟩ : ∃ cur, w2.heap[ga]? = some (.cells cur 65 (0, 0)) ∧ q5 ≤ ga := by
            rcases hI7.2 with ⟨hv, _⟩ | ⟨g', cap', cur, hv, hg, hgb, _⟩
            · cases hv
            · cases hv; exact ⟨cur, hgb, hg⟩
          obtain ⟨g3, cap3, e3, y0⟩ := nts_at hI7 (show 2 * k + 1 < ids'.length by omega)
          rw [hlen'] at e3
          simp only [Value.slice.injEq, Option.some.injEq, Addr.mk.injEq, true_and, and_true] at e3
          obtain ⟨rfl, rfl⟩ := e3
          have fz : w2.frozen? ⟨ga, 2 * k + 1, none⟩ = false := by simp [World.frozen?, hown]
          obtain ⟨w3, hw3⟩ : ∃ w, w2.setCell ⟨ga, 2 * k + 1, none⟩ (.int .i64 (c.id : Int)) = w := ⟨_, rfl⟩
          have HI8 : Hid (Ids q5 w3 (.slice (some ⟨ga, 0, none⟩) nl ic) (ids'.set (2 * k + 1) c.id)) := Lib.hid (by rw [← hw3]; exact idsSet hI7 (2 * k + 1) c.id)
          have HS8 : Hid (StAt n0 w3 B most E5) := Lib.hid (by rw [← hw3]; exact (hs6.below bw).set' hown (by decide) (by decide) _)
          have hbb : Below W.heap.size wr w3 := by rw [← hw3]; exact (bw.mono hb6.size).setCell (p := ⟨ga, 2 * k + 1, none⟩) (Nat.le_trans HW5.out.2.2 hqg) _
          have HB8 := Lib.hid (hb6.trans (hbb.mono HN0.out))
          have HK8 := Lib.hid (hkt6.then hbb)
          have hidx : IntKind.i64.wrap (2 * (k : Int)) = ((2 * k : Nat) : Int) := by rw [IntKind.wrap_i64]; omega
          have hidx2 : IntKind.i64.wrap (((2 * k : Nat) : Int) + 1) = ((2 * k + 1 : Nat) : Int) := by rw [IntKind.wrap_i64]; omega
          have hnn2 : ((2 * k + 1 : Nat) : Int) < (nl : Int) := by omega
          generalize (ids'[2 * k + 1]'(by omega)) = oldv at y0
          generalize hm1 : 2 * k + 1 = m at *
          generalize hm2 : 2 * k = mm at *
          clear hm1 hm2 hI6 hst hs6 hb6 hkt6 hI7 bw kc hown hqg hbb hcc hnl hlen' hk
          go_wp2_with fail
          go_roundw
          case rel => exact ⟨k + 1, _, HJ.out, by go_num, HI8.out, HST.out, HS8.out, HB8.out, HK8.out⟩
          case measure => have := HJ.out; simp [intOf]; omega
        · obtain rfl : k = L.length := by omega
          have hx5 := HX5.out
          have hT5 : Txs E5 L := fun c hc => by
            have h1 := HT.out c hc
            exact ⟨Nat.le_trans h1.1 hx5.2.2.1.le, by rw [hx5.2.2.1.ent h1.1]; exact h1.2⟩
          have hbal := hst.bal (t := t) hx5.2.2.2.2.1 hx5.2.2.2.2.2 hT5
          have hpe := patF_ext hx5.2.2.1 t L 0 (fun c hc => (HT.out c hc).1)
          have hfl := pcsT_flat E5 t L 0
          rw [hpe] at hfl
          have hok := HOK.out
          have hpl := patF_len (E := E) (t := t) L (-1) 0 hok.2.2.1 (by omega) (by omega)
          have hdl := del_le (by omega) hok.2.2.1
          have hnn := HNN.out
          unfold appK at hnn
          have hnl := HNL.out
          have HCC := Lib.hid (concat_any hD hs6 hx5.2.1 hI6 hbal (by rw [hfl]; omega) (by omega) (by rw [hlen', ← hnl]; omega) (by rw [hlen', ← hnl]; omega))
          rw [hfl] at HCC
          have HFI : Hid (∀ e w, JnP n0 B most (ids'.length * (3 * D + 1)) E5 wr (patF E t 0 L) e w → JnP n0 B most (appK D L.length) E W (patF E t 0 L) e w) := Lib.hid (fun e w hj => hj.after (k1 := (2 * L.length + 1) * secK D) rfl hx5.2.2.1 hx5.2.2.2.1 (by rw [hlen', ← hnl]; exact Nat.le_refl _) hb6 hkt6)
          clear hI6 hst hs6 hb6 hkt6 hlen' hx5 hT5 hbal hpe hfl hok hpl hdl hnn hnl hk
          go_wp2_with fail
          refine HCC.out.mono ?_
          intro e w8 hj
          obtain ⟨i8, rfl⟩ := hj.ret
          have HZ := Lib.hid (HFI.out _ _ hj)
          clear hj
          go_wp2_with fail
          go_ret2
          exact .inr ⟨by first | rfl | trivial, HZ.out⟩
end M
end Go.Proofs.Ytplccefjljdjnaa
