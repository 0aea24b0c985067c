/- split.section, Section: a range of a balanced text. -/
import Derived.Test.YtplccefjljdjnaaSplitA
import Derived.Test.YtplccefjljdjnaaPatch2
set_option linter.unusedVariables false
set_option linter.unusedSimpArgs false
namespace Go.Proofs.Ytplccefjljdjnaa
open Go.RowKit Go.Lib
namespace M
attribute [local go_sem] Oper.semAt_some
def secK (D : Nat) : Nat := (2 * D + 1) * (3 * D + 1)
theorem secK_eq (D : Nat) : secK D = D * (3 * D + 1) + (D * (3 * D + 1) + (3 * D + 1)) := by
  unfold secK
  rw [Nat.add_mul, Nat.one_mul, Nat.two_mul, Nat.add_mul]; omega
theorem sec_left {s t : List Nat} {f n : Nat} (h : f + n ≤ s.length) : ((s ++ t).drop f).take n = (s.drop f).take n := by
  rw [List.drop_append_of_le_length (by omega), List.take_append_of_le_length (by rw [List.length_drop]; omega)]
theorem sec_right {s t : List Nat} {f n : Nat} (h : s.length ≤ f) : ((s ++ t).drop f).take n = (t.drop (f - s.length)).take n := by
  rw [List.drop_append, List.drop_of_length_le h, List.nil_append]
theorem sec_both {s t : List Nat} {f n : Nat} (h1 : f < s.length) (h2 : s.length < f + n) : ((s ++ t).drop f).take n = s.drop f ++ t.take (f + n - s.length) := by
  rw [List.drop_append_of_le_length (by omega), List.take_append, List.take_of_length_le (by rw [List.length_drop]; omega), List.length_drop]
  congr 2; omega
set_option maxRecDepth 100000 in
set_option maxHeartbeats 8000000 in
theorem secn_any {D M : Nat} (hD : Dep D M) {n0 B most : Nat} {W : World} {E : List En} {i f n : Nat} {t : List Nat} (hs : StAt n0 W B most E) (hwf : WfD E) (hb : Bal0 E i t) (hfn : f + n ≤ t.length) (hM : t.length ≤ M) (hroom : E.length + secK D ≤ most) (hE : E.length + secK D ≤ 1048576) :
    Calls Try.prog 78 #[.pointer (some ⟨B, 0, none⟩), .int .i64 i, .int .i64 (f : Nat), .int .i64 (n : Nat)] W (JnP n0 B most (secK D) E W ((t.drop f).take n)) := by
  have hn0 := hs.lt
  have hE' : E.length ≤ 1048576 := by omega
  have HS := Lib.hid hs; have HWF := Lib.hid hwf; have HBL := Lib.hid hb; have HN0 := Lib.hid hn0
  have HNN := Lib.hid (And.intro hM (And.intro hroom hE))
  have hM60 := hD.2
  by_cases g0 : n = 0
  · subst g0
    clear hs hwf hb hfn hM hroom hE hn0 hE'
    go_enter Try.func78, Try.ntmps78
    go_wp2_with fail
    go_ret2
    exact ⟨E, 0, rfl, HS.out, HWF.out, Ext.refl _, by omega, ⟨Nat.zero_le _, by rw [txt_zero, List.take_zero], rfl⟩, Below.refl _ _, Kt.of (Below.refl _ _)⟩
  have e0 : ((n : Int) == 0) = false := by simp; omega
  have hi0 : 0 < i := by
    rcases Nat.eq_zero_or_pos i with g | g
    · have := (hb.zero hwf).1 g
      rw [this] at hfn; simp at hfn; omega
    · exact g
  have hbal := hb.bal hi0
  obtain ⟨G, hG⟩ : ∃ G, (t.drop f).take n = G := ⟨_, rfl⟩
  rw [hG]
  have HST := Lib.hid (And.intro hbal (And.intro hG hfn))
  clear hb hfn hbal hG hi0
  go_enter Try.func78, Try.ntmps78
  go_wp2_with fail
  go_loopw [1, 2] (fun c1 c2 wr => ∃ (j g d : Nat) (u : List Nat), c1 = .int .i64 j ∧ c2 = .int .i64 (g : Nat) ∧ Bal E j u d ∧ (u.drop g).take n = G ∧ g + n ≤ u.length ∧ u.length ≤ t.length ∧ Below W.heap.size W wr) (fun c1 _ _ => (entAt E (intOf c1).toNat).depth)
  case atStart => exact ⟨i, f, _, t, rfl, rfl, HST.out.1, HST.out.2.1, HST.out.2.2, Nat.le_refl _, Below.refl _ _⟩
  case round =>
    obtain ⟨j, g, d, u, rfl, rfl, hb, hG, hgn, hut, hbw⟩ := hrel
    have HBW := Lib.hid hbw
    have HSZ := Lib.hid (ssizeB_any (hs.below hbw) hwf hb.zero hE')
    have HB := Lib.hid hb; have HG := Lib.hid hG
    by_cases g1 : n = u.length
    · have e1 : ((n : Int) == (u.length : Int)) = true := by simp; omega
      have HX : Hid (JnP n0 B most (secK D) E W G (.returned (.tuple #[.int .i64 (j : Nat), .nilIface])) wr → True) := Lib.hid (fun _ => trivial)
      have HU : Hid (G = u) := Lib.hid (by
        obtain rfl : g = 0 := by omega
        rw [← hG, g1, List.drop_zero, List.take_length])
      generalize u.length = ul at *
      clear hb hG hgn hut hbw g1 hs hwf hM hroom hE hn0 hE' hM60 HX
      go_wp2_with fail
      refine HSZ.out.mono ?_; rintro e w1 ⟨rfl, b1⟩
      have B1 := Lib.hid (Below.after HBW.out b1); clear b1
      go_wp2_with fail
      go_ret2
      exact ⟨E, j, rfl, HS.out.below B1.out, HWF.out, Ext.refl _, by omega, by rw [HU.out]; exact HB.out.zero, B1.out.mono HN0.out, Kt.of B1.out⟩
    have e1 : ((n : Int) == (u.length : Int)) = false := by simp; omega
    have hd0 : 0 < d := by
      rcases Nat.eq_zero_or_pos d with q | q
      · exfalso
        subst q
        have h1 := hb.letter hwf
        omega
      · exact q
    obtain ⟨l, r, s1, t1, d1, d2, hru, hl, hr, ht, hdd, hd1, hd2⟩ := hb.split hwf hd0
    obtain ⟨ru, hrue⟩ : ∃ x, (entAt E j).ru = x := ⟨_, rfl⟩
    have el : l = ru.left := by rw [← hrue, hru]
    have er : r = ru.right := by rw [← hrue, hru]
    subst el er
    have HRU := Lib.hid (fun w (hw : Below W.heap.size W w) => rule_any (hs.below hw) hb.pos hb.le hE' (W := w))
    rw [hrue] at HRU
    unfold ruV at HRU
    have HSL := Lib.hid (fun w (hw : Below W.heap.size W w) => ssizeB_any (hs.below hw) hwf hl.zero hE' (W := w))
    have hlen : u.length = s1.length + t1.length := by rw [ht, List.length_append]
    have hD1 := hD.le hwf hl (by omega); have hD2 := hD.le hwf hr (by omega)
    have hjd : (entAt E j).depth = d := hb.depth
    have hld : (entAt E ru.left).depth = d1 := hl.depth
    have hrd : (entAt E ru.right).depth = d2 := hr.depth
    have HDP := Lib.hid (And.intro hjd (And.intro hld (And.intro hrd hdd)))
    have HL := Lib.hid hl; have HR := Lib.hid hr
    subst ht
    have hg63 : g + n ≤ 1152921504606846976 := by omega
    have hw1 : IntKind.i64.wrap ((g : Int) + (n : Int)) = ((g + n : Nat) : Int) := by rw [IntKind.wrap_i64]; omega
    by_cases c1 : g + n ≤ s1.length
    · have e2 : ((g + n : Nat) : Int) ≤ (s1.length : Int) := by omega
      have HN : Hid ((s1.drop g).take n = G ∧ (g ≤ s1.length - n ∧ n ≤ s1.length) ∧ s1.length ≤ t.length) := Lib.hid ⟨by rw [← hG, sec_left c1], ⟨by omega, by omega⟩, by omega⟩
      generalize (s1 ++ t1).length = ul at *
      generalize hm : s1.length = m at *
      have HM := Lib.hid hm
      generalize g + n = gn at *
      clear hb hG hgn hut hbw g1 hs hwf hM hroom hE hn0 hE' hM60 hl hr hlen hjd hld hrd hdd hd1 hd2 hd0 hru hrue hm c1 hg63 hD1 hD2
      go_wp2_with fail
      refine HSZ.out.mono ?_; rintro e w1 ⟨rfl, b1⟩
      have B1 := Lib.hid (Below.after HBW.out b1); clear b1
      go_wp2_with fail
      refine (HRU.out w1 B1.out).mono ?_; rintro e w2 ⟨rfl, b2⟩
      obtain ⟨wz, w3, hz, hs1, kr, br, ⟨r0, r1, r2, r3, r4⟩, q0, q1, q2, q3, q4⟩ := newRu w2 ru
      obtain ⟨gc, hgc⟩ : ∃ g, w2.heap.size = g := ⟨_, rfl⟩
      rw [hgc] at hs1 kr r0 r1 r2 r3 r4 q0 q1 q2 q3 q4
      obtain ⟨y0, y1, y2, y3, y4⟩ := kr.cells
      have HB3 := Lib.hid (Below.after B1.out (Below.after b2 br)); have KR := Lib.hid kr
      clear b2 kr br
      go_wp2_with fail
      clear hz hs1 r0 r1 r2 r3 r4 q0 q1 q2 q3 q4 y0 y1 y2 y3 y4 hgc
      refine (HSL.out w3 HB3.out).mono ?_; rintro e w4 ⟨rfl, b4⟩
      have HB4 := Lib.hid (Below.after HB3.out b4)
      have KR4 := Lib.hid (show RuC w4 gc ru from below_block b4 KR.out)
      obtain ⟨y0, y1, y2, y3, y4⟩ := KR4.out.cells
      clear b4
      go_wp2_with fail
      clear y0 y1 y2 y3 y4
      go_roundw
      case rel => exact ⟨ru.left, g, d1, s1, rfl, rfl, HL.out, HN.out.1, by have := HN.out.2; have := HM.out; omega, by rw [HM.out]; exact HN.out.2.2, HB4.out⟩
      case measure => simp [intOf, HDP.out.1, HDP.out.2.1]; have := HDP.out.2.2.2; omega
    have e2 : ¬ ((g + n : Nat) : Int) ≤ (s1.length : Int) := by omega
    by_cases c2 : s1.length ≤ g
    · have e3 : (s1.length : Int) ≤ (g : Int) := by omega
      have hw2 : IntKind.i64.wrap ((g : Int) - (s1.length : Int)) = ((g - s1.length : Nat) : Int) := by rw [IntKind.wrap_i64]; omega
      have HN : Hid ((t1.drop (g - s1.length)).take n = G ∧ g - s1.length + n ≤ t1.length ∧ t1.length ≤ t.length) := Lib.hid ⟨by rw [← hG, sec_right c2], by omega, by omega⟩
      generalize (s1 ++ t1).length = ul at *
      generalize g - s1.length = g2 at *
      generalize s1.length = m at *
      generalize g + n = gn at *
      clear hb hG hgn hut hbw g1 hs hwf hM hroom hE hn0 hE' hM60 hl hr hlen hjd hld hrd hdd hd1 hd2 hd0 hru hrue c1 c2 hg63 hD1 hD2
      go_wp2_with fail
      refine HSZ.out.mono ?_; rintro e w1 ⟨rfl, b1⟩
      have B1 := Lib.hid (Below.after HBW.out b1); clear b1
      go_wp2_with fail
      refine (HRU.out w1 B1.out).mono ?_; rintro e w2 ⟨rfl, b2⟩
      obtain ⟨wz, w3, hz, hs1, kr, br, ⟨r0, r1, r2, r3, r4⟩, q0, q1, q2, q3, q4⟩ := newRu w2 ru
      obtain ⟨gc, hgc⟩ : ∃ g, w2.heap.size = g := ⟨_, rfl⟩
      rw [hgc] at hs1 kr r0 r1 r2 r3 r4 q0 q1 q2 q3 q4
      obtain ⟨y0, y1, y2, y3, y4⟩ := kr.cells
      have HB3 := Lib.hid (Below.after B1.out (Below.after b2 br)); have KR := Lib.hid kr
      clear b2 kr br
      go_wp2_with fail
      clear hz hs1 r0 r1 r2 r3 r4 q0 q1 q2 q3 q4 y0 y1 y2 y3 y4 hgc
      refine (HSL.out w3 HB3.out).mono ?_; rintro e w4 ⟨rfl, b4⟩
      have HB4 := Lib.hid (Below.after HB3.out b4)
      have KR4 := Lib.hid (show RuC w4 gc ru from below_block b4 KR.out)
      obtain ⟨y0, y1, y2, y3, y4⟩ := KR4.out.cells
      clear b4
      go_wp2_with fail
      clear y0 y1 y2 y3 y4
      go_roundw
      case rel => exact ⟨ru.right, g2, d2, t1, rfl, rfl, HR.out, HN.out.1, HN.out.2.1, HN.out.2.2, HB4.out⟩
      case measure => simp [intOf, HDP.out.1, HDP.out.2.2.1]; have := HDP.out.2.2.2; omega
    · have e3 : ¬ (s1.length : Int) ≤ (g : Int) := by omega
      have hw2 : IntKind.i64.wrap (((g + n : Nat) : Int) - (s1.length : Int)) = ((g + n - s1.length : Nat) : Int) := by rw [IntKind.wrap_i64]; omega
      have hk := secK_eq D
      have hm1 : d1 * (3 * D + 1) ≤ D * (3 * D + 1) := Nat.mul_le_mul_right _ hD1
      have hm2 : d2 * (3 * D + 1) ≤ D * (3 * D + 1) := Nat.mul_le_mul_right _ hD2
      have HRS := Lib.hid (fun w (hw : Below W.heap.size W w) => rest_any hD d1 (hs.below hw) hwf hl (k := g) (W := w) (by omega) (by omega) (by omega) (by omega))
      have HKK := Lib.hid (And.intro hk (And.intro hm1 hm2))
      have HG2 : Hid (s1.drop g ++ t1.take (g + n - s1.length) = G) := Lib.hid (by rw [← hG, sec_both (by omega) (by omega)])
      have HLN : Hid ((s1.drop g).length + (t1.take (g + n - s1.length)).length ≤ M ∧ g + n - s1.length ≤ t1.length ∧ t1.length ≤ M) := Lib.hid ⟨by rw [List.length_drop, List.length_take]; omega, by omega, by omega⟩
      generalize (s1 ++ t1).length = ul at *
      generalize g + n - s1.length = g2 at *
      generalize s1.length = m at *
      generalize g + n = gn at *
      clear hb hG hgn hut hbw g1 hs hwf hM hroom hE hn0 hE' hM60 hl hr hlen hjd hld hrd hdd hd1 hd2 hd0 hru hrue c1 c2 hg63 hD1 hD2 hk hm1 hm2
      go_wp2_with fail
      refine HSZ.out.mono ?_; rintro e w1 ⟨rfl, b1⟩
      have B1 := Lib.hid (Below.after HBW.out b1); clear b1
      go_wp2_with fail
      refine (HRU.out w1 B1.out).mono ?_; rintro e w2 ⟨rfl, b2⟩
      obtain ⟨wz, w3, hz, hs1, kr, br, ⟨r0, r1, r2, r3, r4⟩, q0, q1, q2, q3, q4⟩ := newRu w2 ru
      obtain ⟨gc, hgc⟩ : ∃ g, w2.heap.size = g := ⟨_, rfl⟩
      rw [hgc] at hs1 kr r0 r1 r2 r3 r4 q0 q1 q2 q3 q4
      obtain ⟨y0, y1, y2, y3, y4⟩ := kr.cells
      have HB3 := Lib.hid (Below.after B1.out (Below.after b2 br)); have KR := Lib.hid kr
      clear b2 kr br
      go_wp2_with fail
      clear hz hs1 r0 r1 r2 r3 r4 q0 q1 q2 q3 q4 y0 y1 y2 y3 y4 hgc
      refine (HSL.out w3 HB3.out).mono ?_; rintro e w4 ⟨rfl, b4⟩
      have HB4 := Lib.hid (Below.after HB3.out b4)
      have KR4 := Lib.hid (show RuC w4 gc ru from below_block b4 KR.out)
      obtain ⟨y0, y1, y2, y3, y4⟩ := KR4.out.cells
      clear b4
      go_wp2_with fail
      clear y0 y1 y2 y3 y4
      refine (HRS.out w4 HB4.out).mono ?_
      intro e w5 hj
      obtain ⟨E5, i5, rfl, s5, f5, x5, n5, bl5, bb5, kt5⟩ := hj
      have KR5 := Lib.hid (show RuC w5 gc ru from kt5 _ (by decide) (by decide) _ _ _ KR4.out)
      obtain ⟨y0, y1, y2, y3, y4⟩ := KR5.out.cells
      have HFR := Lib.hid (front_any hD d2 s5 f5 (HR.out.ext x5) (k := g2) HLN.out.2.1 HLN.out.2.2 (by have := HKK.out; have := HNN.out; omega) (by have := HKK.out; have := HNN.out; omega))
      have HX := Lib.hid (And.intro x5 (And.intro n5 (And.intro ((HB4.out.mono HN0.out).trans bb5) ((Kt.of HB4.out).trans kt5))))
      have HBL5 := Lib.hid bl5
      clear s5 f5 x5 n5 bl5 bb5 kt5
      go_wp2_with fail
      clear y0 y1 y2 y3 y4
      refine HFR.out.mono ?_
      intro e w6 hj
      obtain ⟨E6, i6, rfl, s6, f6, x6, n6, bl6, bb6, kt6⟩ := hj
      have HJ := Lib.hid (avlJoinD_any hD s6 f6 (HBL5.out.ext x6) bl6 HLN.out.1 (by have := HKK.out; have := HNN.out; have := HX.out.2.1; omega) (by have := HKK.out; have := HNN.out; have := HX.out.2.1; omega))
      rw [HG2.out] at HJ
      have HX2 := Lib.hid (And.intro (HX.out.1.trans x6) (And.intro n6 (And.intro (HX.out.2.2.1.trans bb6) (HX.out.2.2.2.trans kt6))))
      clear s6 f6 x6 n6 bl6 bb6 kt6
      go_wp2_with fail
      refine HJ.out.mono ?_
      intro e w7 hj
      obtain ⟨i7, rfl⟩ := hj.ret
      have HZ := Lib.hid (hj.after (k := secK D) (k1 := D * (3 * D + 1) + D * (3 * D + 1)) rfl HX2.out.1 (by have := HX2.out.2.1; have := HX.out.2.1; have := HKK.out; omega) (by have := HKK.out; omega) HX2.out.2.2.1 HX2.out.2.2.2)
      clear hj
      go_wp2_with fail
      go_ret2
      exact HZ.out
set_option maxRecDepth 100000 in
set_option maxHeartbeats 2000000 in
theorem section_any {D M : Nat} (hD : Dep D M) {n0 B most : Nat} {W : World} {E : List En} {i f n : Nat} {t : List Nat} (hs : StAt n0 W B most E) (hwf : WfD E) (hb : Bal0 E i t) (hfn : f + n ≤ t.length) (hM : t.length ≤ M) (hroom : E.length + secK D ≤ most) (hE : E.length + secK D ≤ 1048576) :
    Calls Try.prog 76 #[.pointer (some ⟨B, 0, none⟩), .int .i64 i, .int .i64 (f : Nat), .int .i64 (n : Nat)] W (JnP n0 B most (secK D) E W ((t.drop f).take n)) := by
  have hE' : E.length ≤ 1048576 := by omega
  have hn0 := hs.lt
  have hM60 := hD.2
  have HN0 := Lib.hid hn0
  have HC := Lib.hid (scheck_any hs hwf hb hE')
  have HG := Lib.hid (fun w => rng_any w (f : Int) (n : Int) (t.length : Int))
  have hr : rngB (f : Int) (n : Int) (t.length : Int) = true := by rw [rngB_iff]; unfold maxL; omega
  rw [hr] at HG
  simp only [if_true] at HG
  have HS := Lib.hid (fun w (hw : Below W.heap.size W w) => secn_any hD (hs.below hw) hwf hb hfn hM hroom hE)
  generalize (t.drop f).take n = G at *
  generalize t.length = tl at *
  clear hs hwf hb hfn hM hroom hE hE' hn0 hM60 hr
  go_enter Try.func76, Try.ntmps76
  go_wp2_with fail
  refine HC.out.mono ?_; rintro e w1 ⟨rfl, b1⟩
  have B1 := Lib.hid b1; clear b1
  go_wp2_with fail
  refine (HG.out w1).mono ?_; rintro e w ⟨rfl, h⟩; rw [h]; clear h w
  go_wp2_with fail
  refine (HS.out w1 B1.out).mono ?_
  intro e w2 hj
  obtain ⟨i2, rfl⟩ := hj.ret
  have HZ := Lib.hid (hj.read B1.out HN0.out)
  clear hj
  go_wp2_with fail
  go_ret2
  exact HZ.out
end M
end Go.Proofs.Ytplccefjljdjnaa
