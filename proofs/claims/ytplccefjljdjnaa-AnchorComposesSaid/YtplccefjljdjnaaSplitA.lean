/- split.size, check, front, rest: parts of a balanced text. -/
import Derived.Test.YtplccefjljdjnaaAvlJ
set_option linter.unusedVariables false
set_option linter.unusedSimpArgs false
namespace Go.Proofs.Ytplccefjljdjnaa
open Go.RowKit Go.Lib
namespace M
attribute [local go_sem] Oper.semAt_some
/-- A balanced text of depth 0 is one letter. -/
theorem Bal.letter {E : List En} (hE : WfD E) {i : Nat} {t : List Nat} (h : Bal E i t 0) : t.length = 1 := by
  have hdo := hE.at i h.pos h.le
  rcases (hE.wf.rule i h.pos h.le).cases with ⟨a, -, -, -, -, b⟩ | ⟨a, -⟩ | ⟨a, -⟩
  · rw [← h.txt, b]; rfl
  · have := (hdo.2.1 a).1
    rw [h.depth] at this; omega
  · have := hdo.2.2 a
    rw [h.even] at this; cases this
section
variable {n0 B most : Nat} {W : World} {E : List En}
set_option maxRecDepth 100000 in
set_option maxHeartbeats 1000000 in
theorem ssize_any (h : StAt n0 W B most E) {i : Nat} (hi : i ≤ E.length) (hE : E.length ≤ 1048576) :
    Calls Try.prog 89 #[.pointer (some ⟨B, 0, none⟩), .int .i64 i] W fun e w' => e = .returned (.tuple #[.int .i64 (entAt E i).w.len, .nilIface]) ∧ Below W.heap.size W w' := by
  have HW := Lib.hid (weight_any h hi hE)
  obtain ⟨u, hu⟩ : ∃ u, (entAt E i).w = u := ⟨_, rfl⟩
  rw [hu] at HW ⊢
  unfold wtV at HW
  clear h hu
  go_enter Try.func89, Try.ntmps89
  go_wp2_with fail
  refine HW.out.mono ?_; rintro e w1 ⟨rfl, b1⟩
  obtain ⟨wz, w2, hz, hs, kw, bw, ⟨p0, p1, p2, p3, p4, p5⟩, q0, q1, q2, q3, q4, q5⟩ := newWt w1 u
  obtain ⟨x0, x1, x2, x3, x4, x5⟩ := kw.cells
  have B2 := Lib.hid (Below.after b1 bw)
  clear b1 kw bw
  go_wp2_with fail
  go_ret2
  exact ⟨rfl, B2.out⟩
/-- The length of a balanced text. -/
theorem ssizeB_any (h : StAt n0 W B most E) (hwf : WfD E) {i : Nat} {t : List Nat} (hb : Bal0 E i t) (hE : E.length ≤ 1048576) :
    Calls Try.prog 89 #[.pointer (some ⟨B, 0, none⟩), .int .i64 i] W fun e w' => e = .returned (.tuple #[.int .i64 (t.length : Nat), .nilIface]) ∧ Below W.heap.size W w' := by
  have := ssize_any h hb.le hE
  rwa [(hb.len hwf).2] at this
set_option maxRecDepth 100000 in
set_option maxHeartbeats 1000000 in
theorem scheck_any (h : StAt n0 W B most E) (hwf : WfD E) {i : Nat} {t : List Nat} (hb : Bal0 E i t) (hE : E.length ≤ 1048576) :
    Calls Try.prog 77 #[.pointer (some ⟨B, 0, none⟩), .int .i64 i] W fun e w' => e = .returned (.tuple #[.int .i64 (t.length : Nat), .nilIface]) ∧ Below W.heap.size W w' := by
  have HB := Lib.hid (balanced_any h hb.le hE)
  rw [hb.even] at HB
  have HS := Lib.hid (fun w hw => ssizeB_any (h.below hw) hwf hb hE (W := w))
  clear h hb
  go_enter Try.func77, Try.ntmps77
  go_wp2_with fail
  refine HB.out.mono ?_; rintro e w1 ⟨rfl, b1⟩
  have B1 := Lib.hid b1
  clear b1
  go_wp2_with fail
  refine (HS.out w1 B1.out).mono ?_; rintro e w2 ⟨rfl, b2⟩
  have B2 := Lib.hid (Below.after B1.out b2)
  clear b2
  go_wp2_with fail
  go_ret2
  exact ⟨rfl, B2.out⟩
end
set_option maxRecDepth 100000 in
set_option maxHeartbeats 8000000 in
theorem rest_any {D M : Nat} (hD : Dep D M) : ∀ (d : Nat) {n0 B most : Nat} {W : World} {E : List En} {i k : Nat} {t : List Nat}, StAt n0 W B most E → WfD E → Bal E i t d → k ≤ t.length → t.length ≤ M → E.length + d * (3 * D + 1) ≤ most → E.length + d * (3 * D + 1) ≤ 1048576 →
    Calls Try.prog 90 #[.pointer (some ⟨B, 0, none⟩), .int .i64 i, .int .i64 (k : Nat)] W (JnP n0 B most (d * (3 * D + 1)) E W (t.drop k)) := by
  intro d
  induction d using Nat.strongRecOn with
  | _ d ih =>
  intro n0 B most W E i k t hs hwf hb hk hM hroom hE
  have hn0 := hs.lt
  have hE' : E.length ≤ 1048576 := by omega
  have HS := Lib.hid hs; have HWF := Lib.hid hwf; have HBL := Lib.hid hb; have HN0 := Lib.hid hn0; have HK := Lib.hid hk
  have HNN := Lib.hid (And.intro hM (And.intro hroom hE))
  have hbl := (hb.zero).len hwf
  by_cases g0 : k = 0
  · subst g0
    clear hs hwf hb hk hM hroom hE hn0 hE' hbl ih
    go_enter Try.func90, Try.ntmps90
    go_wp2_with fail
    go_ret2
    exact ⟨E, i, rfl, HS.out, HWF.out, Ext.refl _, by omega, by rw [List.drop_zero]; exact HBL.out.zero, Below.refl _ _, Kt.of (Below.refl _ _)⟩
  have e0 : ((k : Int) == 0) = false := by simp; omega
  have HSZ := Lib.hid (ssizeB_any hs hwf hb.zero hE')
  by_cases g1 : k = t.length
  · have e1 : ((k : Int) == (t.length : Int)) = true := by simp; omega
    clear hs hwf hb hk hM hroom hE hn0 hE' hbl ih
    go_enter Try.func90, Try.ntmps90
    go_wp2_with fail
    refine HSZ.out.mono ?_; rintro e w1 ⟨rfl, b1⟩
    have B1 := Lib.hid b1; clear b1
    go_wp2_with fail
    go_ret2
    exact ⟨E, 0, rfl, HS.out.below B1.out, HWF.out, Ext.refl _, by omega, ⟨Nat.zero_le _, by rw [txt_zero, g1, List.drop_length], rfl⟩, B1.out.mono HN0.out, Kt.of B1.out⟩
  have e1 : ((k : Int) == (t.length : Int)) = false := by simp; omega
  have hd0 : 0 < d := by
    rcases Nat.eq_zero_or_pos d with g | g
    · exfalso
      subst g
      have h1 := hb.letter hwf
      omega
    · exact g
  obtain ⟨l, r, s1, t1, d1, d2, hru, hl, hr, ht, hdd, hd1, hd2⟩ := hb.split hwf hd0
  obtain ⟨ru, hrue⟩ : ∃ x, (entAt E i).ru = x := ⟨_, rfl⟩
  have el : l = ru.left := by rw [← hrue, hru]
  have er : r = ru.right := by rw [← hrue, hru]
  subst el er
  have HRU := Lib.hid (fun w (hw : Below W.heap.size W w) => rule_any (hs.below hw) hb.pos hb.le hE' (W := w))
  rw [hrue] at HRU
  unfold ruV at HRU
  have HSL := Lib.hid (fun w (hw : Below W.heap.size W w) => ssizeB_any (hs.below hw) hwf hl.zero hE' (W := w))
  have hlen : t.length = s1.length + t1.length := by rw [ht, List.length_append]
  have HT := Lib.hid ht
  have hle1 : d1 * (3 * D + 1) + (3 * D + 1) ≤ d * (3 * D + 1) := by rw [← Nat.succ_mul]; exact Nat.mul_le_mul_right _ (by omega)
  have hle2 : d2 * (3 * D + 1) ≤ d * (3 * D + 1) := Nat.mul_le_mul_right _ (by omega)
  have HLE := Lib.hid (And.intro hle1 hle2)
  have HL := Lib.hid hl; have HR := Lib.hid hr
  by_cases g2 : s1.length ≤ k
  · have e2 : (s1.length : Int) ≤ (k : Int) := by omega
    have hw2 : IntKind.i64.wrap ((k : Int) - (s1.length : Int)) = ((k - s1.length : Nat) : Int) := by rw [IntKind.wrap_i64]; omega
    have HRC := Lib.hid (fun w (hw : Below W.heap.size W w) => ih d2 (by omega) (hs.below hw) hwf hr (k := k - s1.length) (W := w) (by omega) (by omega) (by omega) (by omega))
    have hdr : t1.drop (k - s1.length) = t.drop k := by rw [ht, List.drop_append, List.drop_of_length_le g2, List.nil_append]
    have HDR := Lib.hid hdr
    generalize k - s1.length = k2 at *
    generalize s1.length = m at *
    generalize t.length = tl at *
    clear hs hwf hb hk hM hroom hE hn0 hE' hbl ih hl hr ht hle1 hle2 hlen hdr hdd hd1 hd2 hd0 g0 g1 g2 hru hrue
    go_enter Try.func90, Try.ntmps90
    go_wp2_with fail
    refine HSZ.out.mono ?_; rintro e w1 ⟨rfl, b1⟩
    have B1 := Lib.hid b1; clear b1
    go_wp2_with fail
    refine (HRU.out w1 B1.out).mono ?_; rintro e w2 ⟨rfl, b2⟩
    obtain ⟨wz, w3, hz, hs1, kr, br, ⟨r0, r1, r2, r3, r4⟩, q0, q1, q2, q3, q4⟩ := newRu w2 ru
    obtain ⟨gc, hgc⟩ : ∃ g, w2.heap.size = g := ⟨_, rfl⟩
    rw [hgc] at hs1 kr r0 r1 r2 r3 r4 q0 q1 q2 q3 q4
    obtain ⟨y0, y1, y2, y3, y4⟩ := kr.cells
    have HB3 := Lib.hid (Below.after B1.out (Below.after b2 br)); have KR := Lib.hid kr
    clear b2 kr br
    go_wp2_with fail
    clear hz hs1 r0 r1 r2 r3 r4 q0 q1 q2 q3 q4 y0 y1 y2 y3 y4 hgc
    refine (HSL.out w3 HB3.out).mono ?_; rintro e w4 ⟨rfl, b4⟩
    have HB4 := Lib.hid (Below.after HB3.out b4)
    have KR4 := Lib.hid (show RuC w4 gc ru from below_block b4 KR.out)
    obtain ⟨y0, y1, y2, y3, y4⟩ := KR4.out.cells
    clear b4
    go_wp2_with fail
    clear y0 y1 y2 y3 y4
    refine (HRC.out w4 HB4.out).mono ?_
    intro e w5 hj
    obtain ⟨i2, rfl⟩ := hj.ret
    rw [HDR.out] at hj
    have HZ := Lib.hid ((hj.read HB4.out HN0.out).after (k1 := 0) (k := d * (3 * D + 1)) rfl (Ext.refl _) (by omega) (by have := HLE.out.2; omega) (Below.refl _ _) (Kt.of (Below.refl _ _)))
    clear hj
    go_wp2_with fail
    go_ret2
    exact HZ.out
  · have e2 : ¬ (s1.length : Int) ≤ (k : Int) := by omega
    have HRC := Lib.hid (fun w (hw : Below W.heap.size W w) => ih d1 (by omega) (hs.below hw) hwf hl (k := k) (W := w) (by omega) (by omega) (by omega) (by omega))
    have hdr : s1.drop k ++ t1 = t.drop k := by rw [ht, List.drop_append_of_le_length (by omega)]
    have HDR := Lib.hid hdr
    have HLN := Lib.hid (show (s1.drop k).length + t1.length ≤ M by rw [List.length_drop]; omega)
    generalize s1.length = m at *
    generalize t.length = tl at *
    clear hs hwf hb hk hM hroom hE hn0 hE' hbl ih hl hr ht hle1 hle2 hlen hdr hdd hd1 hd2 hd0 g0 g1 g2 hru hrue
    go_enter Try.func90, Try.ntmps90
    go_wp2_with fail
    refine HSZ.out.mono ?_; rintro e w1 ⟨rfl, b1⟩
    have B1 := Lib.hid b1; clear b1
    go_wp2_with fail
    refine (HRU.out w1 B1.out).mono ?_; rintro e w2 ⟨rfl, b2⟩
    obtain ⟨wz, w3, hz, hs1, kr, br, ⟨r0, r1, r2, r3, r4⟩, q0, q1, q2, q3, q4⟩ := newRu w2 ru
    obtain ⟨gc, hgc⟩ : ∃ g, w2.heap.size = g := ⟨_, rfl⟩
    rw [hgc] at hs1 kr r0 r1 r2 r3 r4 q0 q1 q2 q3 q4
    obtain ⟨y0, y1, y2, y3, y4⟩ := kr.cells
    have HB3 := Lib.hid (Below.after B1.out (Below.after b2 br)); have KR := Lib.hid kr
    clear b2 kr br
    go_wp2_with fail
    clear hz hs1 r0 r1 r2 r3 r4 q0 q1 q2 q3 q4 y0 y1 y2 y3 y4 hgc
    refine (HSL.out w3 HB3.out).mono ?_; rintro e w4 ⟨rfl, b4⟩
    have HB4 := Lib.hid (Below.after HB3.out b4)
    have KR4 := Lib.hid (show RuC w4 gc ru from below_block b4 KR.out)
    obtain ⟨y0, y1, y2, y3, y4⟩ := KR4.out.cells
    clear b4
    go_wp2_with fail
    clear y0 y1 y2 y3 y4
    refine (HRC.out w4 HB4.out).mono ?_
    intro e w5 hj
    obtain ⟨E5, i5, rfl, s5, f5, x5, n5, bl5, bb5, kt5⟩ := hj
    have KR5 := Lib.hid (show RuC w5 gc ru from kt5 _ (by decide) (by decide) _ _ _ KR4.out)
    obtain ⟨y0, y1, y2, y3, y4⟩ := KR5.out.cells
    have HJ := Lib.hid (avlJoinD_any hD s5 f5 bl5 (HR.out.zero.ext x5) HLN.out (by have := HLE.out.1; have := HNN.out; omega) (by have := HLE.out.1; have := HNN.out; omega))
    rw [HDR.out] at HJ
    have HX := Lib.hid (And.intro x5 (And.intro n5 (And.intro ((HB4.out.mono HN0.out).trans bb5) ((Kt.of HB4.out).trans kt5))))
    clear s5 f5 x5 n5 bl5 bb5 kt5
    go_wp2_with fail
    clear y0 y1 y2 y3 y4
    refine HJ.out.mono ?_
    intro e w6 hj
    obtain ⟨i6, rfl⟩ := hj.ret
    have HZ := Lib.hid (hj.after (k := d * (3 * D + 1)) rfl HX.out.1 HX.out.2.1 (by have := HLE.out.1; omega) HX.out.2.2.1 HX.out.2.2.2)
    clear hj
    go_wp2_with fail
    go_ret2
    exact HZ.out
set_option maxRecDepth 100000 in
set_option maxHeartbeats 8000000 in
theorem front_any {D M : Nat} (hD : Dep D M) : ∀ (d : Nat) {n0 B most : Nat} {W : World} {E : List En} {i k : Nat} {t : List Nat}, StAt n0 W B most E → WfD E → Bal E i t d → k ≤ t.length → t.length ≤ M → E.length + d * (3 * D + 1) ≤ most → E.length + d * (3 * D + 1) ≤ 1048576 →
    Calls Try.prog 91 #[.pointer (some ⟨B, 0, none⟩), .int .i64 i, .int .i64 (k : Nat)] W (JnP n0 B most (d * (3 * D + 1)) E W (t.take k)) := by
  intro d
  induction d using Nat.strongRecOn with
  | _ d ih =>
  intro n0 B most W E i k t hs hwf hb hk hM hroom hE
  have hn0 := hs.lt
  have hE' : E.length ≤ 1048576 := by omega
  have HS := Lib.hid hs; have HWF := Lib.hid hwf; have HBL := Lib.hid hb; have HN0 := Lib.hid hn0; have HK := Lib.hid hk
  have HNN := Lib.hid (And.intro hM (And.intro hroom hE))
  have hbl := (hb.zero).len hwf
  by_cases g0 : k = 0
  · subst g0
    clear hs hwf hb hk hM hroom hE hn0 hE' hbl ih
    go_enter Try.func91, Try.ntmps91
    go_wp2_with fail
    go_ret2
    exact ⟨E, 0, rfl, HS.out, HWF.out, Ext.refl _, by omega, ⟨Nat.zero_le _, by rw [txt_zero, List.take_zero], rfl⟩, Below.refl _ _, Kt.of (Below.refl _ _)⟩
  have e0 : ((k : Int) == 0) = false := by simp; omega
  have HSZ := Lib.hid (ssizeB_any hs hwf hb.zero hE')
  by_cases g1 : k = t.length
  · have e1 : ((k : Int) == (t.length : Int)) = true := by simp; omega
    clear hs hwf hb hk hM hroom hE hn0 hE' hbl ih
    go_enter Try.func91, Try.ntmps91
    go_wp2_with fail
    refine HSZ.out.mono ?_; rintro e w1 ⟨rfl, b1⟩
    have B1 := Lib.hid b1; clear b1
    go_wp2_with fail
    go_ret2
    exact ⟨E, i, rfl, HS.out.below B1.out, HWF.out, Ext.refl _, by omega, by rw [g1, List.take_length]; exact HBL.out.zero, B1.out.mono HN0.out, Kt.of B1.out⟩
  have e1 : ((k : Int) == (t.length : Int)) = false := by simp; omega
  have hd0 : 0 < d := by
    rcases Nat.eq_zero_or_pos d with g | g
    · exfalso
      subst g
      have h1 := hb.letter hwf
      omega
    · exact g
  obtain ⟨l, r, s1, t1, d1, d2, hru, hl, hr, ht, hdd, hd1, hd2⟩ := hb.split hwf hd0
  obtain ⟨ru, hrue⟩ : ∃ x, (entAt E i).ru = x := ⟨_, rfl⟩
  have el : l = ru.left := by rw [← hrue, hru]
  have er : r = ru.right := by rw [← hrue, hru]
  subst el er
  have HRU := Lib.hid (fun w (hw : Below W.heap.size W w) => rule_any (hs.below hw) hb.pos hb.le hE' (W := w))
  rw [hrue] at HRU
  unfold ruV at HRU
  have HSL := Lib.hid (fun w (hw : Below W.heap.size W w) => ssizeB_any (hs.below hw) hwf hl.zero hE' (W := w))
  have hlen : t.length = s1.length + t1.length := by rw [ht, List.length_append]
  have HT := Lib.hid ht
  have hle1 : d1 * (3 * D + 1) ≤ d * (3 * D + 1) := Nat.mul_le_mul_right _ (by omega)
  have hle2 : d2 * (3 * D + 1) + (3 * D + 1) ≤ d * (3 * D + 1) := by rw [← Nat.succ_mul]; exact Nat.mul_le_mul_right _ (by omega)
  have HLE := Lib.hid (And.intro hle1 hle2)
  have HL := Lib.hid hl; have HR := Lib.hid hr
  by_cases g2 : k ≤ s1.length
  · have e2 : (k : Int) ≤ (s1.length : Int) := by omega
    have HRC := Lib.hid (fun w (hw : Below W.heap.size W w) => ih d1 (by omega) (hs.below hw) hwf hl (k := k) (W := w) (by omega) (by omega) (by omega) (by omega))
    have hdr : s1.take k = t.take k := by rw [ht, List.take_append_of_le_length g2]
    have HDR := Lib.hid hdr
    generalize s1.length = m at *
    generalize t.length = tl at *
    clear hs hwf hb hk hM hroom hE hn0 hE' hbl ih hl hr ht hle1 hle2 hlen hdr hdd hd1 hd2 hd0 g0 g1 g2 hru hrue
    go_enter Try.func91, Try.ntmps91
    go_wp2_with fail
    refine HSZ.out.mono ?_; rintro e w1 ⟨rfl, b1⟩
    have B1 := Lib.hid b1; clear b1
    go_wp2_with fail
    refine (HRU.out w1 B1.out).mono ?_; rintro e w2 ⟨rfl, b2⟩
    obtain ⟨wz, w3, hz, hs1, kr, br, ⟨r0, r1, r2, r3, r4⟩, q0, q1, q2, q3, q4⟩ := newRu w2 ru
    obtain ⟨gc, hgc⟩ : ∃ g, w2.heap.size = g := ⟨_, rfl⟩
    rw [hgc] at hs1 kr r0 r1 r2 r3 r4 q0 q1 q2 q3 q4
    obtain ⟨y0, y1, y2, y3, y4⟩ := kr.cells
    have HB3 := Lib.hid (Below.after B1.out (Below.after b2 br)); have KR := Lib.hid kr
    clear b2 kr br
    go_wp2_with fail
    clear hz hs1 r0 r1 r2 r3 r4 q0 q1 q2 q3 q4 y0 y1 y2 y3 y4 hgc
    refine (HSL.out w3 HB3.out).mono ?_; rintro e w4 ⟨rfl, b4⟩
    have HB4 := Lib.hid (Below.after HB3.out b4)
    have KR4 := Lib.hid (show RuC w4 gc ru from below_block b4 KR.out)
    obtain ⟨y0, y1, y2, y3, y4⟩ := KR4.out.cells
    clear b4
    go_wp2_with fail
    clear y0 y1 y2 y3 y4
    refine (HRC.out w4 HB4.out).mono ?_
    intro e w5 hj
    obtain ⟨i2, rfl⟩ := hj.ret
    rw [HDR.out] at hj
    have HZ := Lib.hid ((hj.read HB4.out HN0.out).after (k1 := 0) (k := d * (3 * D + 1)) rfl (Ext.refl _) (by omega) (by have := HLE.out.1; omega) (Below.refl _ _) (Kt.of (Below.refl _ _)))
    clear hj
    go_wp2_with fail
    go_ret2
    exact HZ.out
  · have e2 : ¬ (k : Int) ≤ (s1.length : Int) := by omega
    have hw2 : IntKind.i64.wrap ((k : Int) - (s1.length : Int)) = ((k - s1.length : Nat) : Int) := by rw [IntKind.wrap_i64]; omega
    have HRC := Lib.hid (fun w (hw : Below W.heap.size W w) => ih d2 (by omega) (hs.below hw) hwf hr (k := k - s1.length) (W := w) (by omega) (by omega) (by omega) (by omega))
    have hdr : s1 ++ t1.take (k - s1.length) = t.take k := by rw [ht, List.take_append, List.take_of_length_le (show s1.length ≤ k by omega)]
    have HDR := Lib.hid hdr
    have HLN := Lib.hid (show s1.length + (t1.take (k - s1.length)).length ≤ M by rw [List.length_take]; omega)
    generalize k - s1.length = k2 at *
    generalize hm : s1.length = m at *
    have HM := Lib.hid hm; clear hm
    generalize t.length = tl at *
    clear hs hwf hb hk hM hroom hE hn0 hE' hbl ih hl hr ht hle1 hle2 hlen hdr hdd hd1 hd2 hd0 g0 g1 g2 hru hrue
    go_enter Try.func91, Try.ntmps91
    go_wp2_with fail
    refine HSZ.out.mono ?_; rintro e w1 ⟨rfl, b1⟩
    have B1 := Lib.hid b1; clear b1
    go_wp2_with fail
    refine (HRU.out w1 B1.out).mono ?_; rintro e w2 ⟨rfl, b2⟩
    obtain ⟨wz, w3, hz, hs1, kr, br, ⟨r0, r1, r2, r3, r4⟩, q0, q1, q2, q3, q4⟩ := newRu w2 ru
    obtain ⟨gc, hgc⟩ : ∃ g, w2.heap.size = g := ⟨_, rfl⟩
    rw [hgc] at hs1 kr r0 r1 r2 r3 r4 q0 q1 q2 q3 q4
    obtain ⟨y0, y1, y2, y3, y4⟩ := kr.cells
    have HB3 := Lib.hid (Below.after B1.out (Below.after b2 br)); have KR := Lib.hid kr
    clear b2 kr br
    go_wp2_with fail
    clear hz hs1 r0 r1 r2 r3 r4 q0 q1 q2 q3 q4 y0 y1 y2 y3 y4 hgc
    refine (HSL.out w3 HB3.out).mono ?_; rintro e w4 ⟨rfl, b4⟩
    have HB4 := Lib.hid (Below.after HB3.out b4)
    have KR4 := Lib.hid (show RuC w4 gc ru from below_block b4 KR.out)
    obtain ⟨y0, y1, y2, y3, y4⟩ := KR4.out.cells
    clear b4
    go_wp2_with fail
    clear y0 y1 y2 y3 y4
    refine (HRC.out w4 HB4.out).mono ?_
    intro e w5 hj
    obtain ⟨E5, i5, rfl, s5, f5, x5, n5, bl5, bb5, kt5⟩ := hj
    have KR5 := Lib.hid (show RuC w5 gc ru from kt5 _ (by decide) (by decide) _ _ _ KR4.out)
    obtain ⟨y0, y1, y2, y3, y4⟩ := KR5.out.cells
    have HJ := Lib.hid (avlJoinD_any hD s5 f5 (HL.out.zero.ext x5) bl5 (by rw [HM.out]; exact HLN.out) (by have := HLE.out.2; have := HNN.out; omega) (by have := HLE.out.2; have := HNN.out; omega))
    rw [HDR.out] at HJ
    have HX := Lib.hid (And.intro x5 (And.intro n5 (And.intro ((HB4.out.mono HN0.out).trans bb5) ((Kt.of HB4.out).trans kt5))))
    clear s5 f5 x5 n5 bl5 bb5 kt5
    go_wp2_with fail
    clear y0 y1 y2 y3 y4
    refine HJ.out.mono ?_
    intro e w6 hj
    obtain ⟨i6, rfl⟩ := hj.ret
    have HZ := Lib.hid (hj.after (k := d * (3 * D + 1)) rfl HX.out.1 HX.out.2.1 (by have := HLE.out.2; omega) HX.out.2.2.1 HX.out.2.2.2)
    clear hj
    go_wp2_with fail
    go_ret2
    exact HZ.out
end M
end Go.Proofs.Ytplccefjljdjnaa
