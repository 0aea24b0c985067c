/- avl.Join: a balanced ID of two balanced texts, one after the other. -/
import Derived.Test.YtplccefjljdjnaaAvl
set_option linter.unusedVariables false
set_option linter.unusedSimpArgs false
namespace Go.Proofs.Ytplccefjljdjnaa
open Go.RowKit Go.Lib
namespace M
attribute [local go_sem] Oper.semAt_some
theorem Bal0.len {E : List En} (hE : WfD E) {i : Nat} {t : List Nat} (h : Bal0 E i t) : t.length ≤ 1152921504606846976 ∧ (entAt E i).w.len = t.length := by
  obtain ⟨a, b⟩ := hE.wf.len h.le
  rw [h.txt] at a b
  exact ⟨b, by rw [a]; rfl⟩
theorem Bal0.zero {E : List En} (hE : WfD E) {i : Nat} {t : List Nat} (h : Bal0 E i t) : i = 0 ↔ t = [] := by
  constructor
  · rintro rfl
    rw [← h.txt, txt_zero]
  · rintro rfl
    rcases Nat.eq_zero_or_pos i with g | g
    · exact g
    · have := (hE.wf.get i g h.le).2.2.1
      rw [h.txt] at this; simp at this
/-- What joining leaves. -/
def JnP (n0 B most k : Nat) (E : List En) (W : World) (t : List Nat) (e : Ending) (w' : World) : Prop := ∃ (E' : List En) (id : Nat), e = .returned (.tuple #[.int .i64 (id : Nat), .nilIface]) ∧ StAt n0 w' B most E' ∧ WfD E' ∧ Ext E E' ∧ E'.length ≤ E.length + k ∧ Bal0 E' id t ∧ Below n0 W w' ∧ Kt W w'
theorem JnP.ret {n0 B most k : Nat} {E : List En} {W w' : World} {t : List Nat} {e : Ending} (h : JnP n0 B most k E W t e w') : ∃ id : Nat, e = .returned (.tuple #[.int .i64 id, .nilIface]) := by
  obtain ⟨E', id, rfl, -⟩ := h
  exact ⟨id, rfl⟩
theorem JnP.after {n0 B most k k1 k2 : Nat} {E E1 : List En} {W w1 w' : World} {t t2 : List Nat} {e : Ending} (h : JnP n0 B most k2 E1 w1 t2 e w') (ht : t2 = t) (hx : Ext E E1) (hn : E1.length ≤ E.length + k1) (hk : k1 + k2 ≤ k) (hb : Below n0 W w1) (hkt : Kt W w1) : JnP n0 B most k E W t e w' := by
  obtain ⟨E', id, he, s, f, x, n, bl, b, kt⟩ := h
  subst ht
  exact ⟨E', id, he, s, f, hx.trans x, by omega, bl, hb.trans b, hkt.trans kt⟩
theorem JnP.read {n0 B most k : Nat} {E : List En} {W w1 w' : World} {t : List Nat} {e : Ending} (h : JnP n0 B most k E w1 t e w') (hb : Below W.heap.size W w1) (hn : n0 ≤ W.heap.size) : JnP n0 B most k E W t e w' :=
  h.after (k1 := 0) rfl (Ext.refl _) (by omega) (by omega) (hb.mono hn) (Kt.of hb)
theorem JoP.jn {n0 B most k lo hi : Nat} {E : List En} {W w' : World} {t : List Nat} {e : Ending} (h : JoP n0 B most k lo hi E W t e w') : JnP n0 B most k E W t e w' := by
  obtain ⟨E', id, d, he, s, f, x, n, bl, -, b, kt⟩ := h
  exact ⟨E', id, he, s, f, x, n, bl.zero, b, kt⟩
set_option maxRecDepth 100000 in
set_option maxHeartbeats 4000000 in
theorem avlJoinK_any {n0 B most k : Nat} {W : World} {E : List En} (hs : StAt n0 W B most E) (hwf : WfD E) {a b : Nat} {s t : List Nat} (ha : Bal0 E a s) (hb : Bal0 E b t) (hlen : s.length + t.length ≤ 1152921504606846976) (hk : ∀ da db, Bal E a s da → Bal E b t db → joK da db ≤ k) (hroom : E.length + k ≤ most) (hE : E.length + k ≤ 1048576) :
    Calls Try.prog 81 #[.pointer (some ⟨B, 0, none⟩), .int .i64 a, .int .i64 b] W (JnP n0 B most k E W (s ++ t)) := by
  have hn0 := hs.lt
  have hE' : E.length ≤ 1048576 := by omega
  have HWA := Lib.hid (weight_any hs ha.le hE')
  have HWB : Hid (∀ w, Below W.heap.size W w → Calls Try.prog 62 #[.pointer (some ⟨B, 0, none⟩), .int .i64 b] w fun e w' => e = .returned (.tuple #[wtV (entAt E b).w, .nilIface]) ∧ Below w.heap.size w w') := Lib.hid (fun w hw => weight_any (hs.below hw) hb.le hE')
  have HEA : Hid (∀ w, Below W.heap.size W w → Calls Try.prog 93 #[.pointer (some ⟨B, 0, none⟩), .int .i64 a] w fun e w' => e = .returned (.bool true) ∧ Below w.heap.size w w') := Lib.hid (fun w hw => by have := even_any (hs.below hw) ha.le hE'; rwa [ha.even] at this)
  have HEB : Hid (∀ w, Below W.heap.size W w → Calls Try.prog 93 #[.pointer (some ⟨B, 0, none⟩), .int .i64 b] w fun e w' => e = .returned (.bool true) ∧ Below w.heap.size w w') := Lib.hid (fun w hw => by have := even_any (hs.below hw) hb.le hE'; rwa [hb.even] at this)
  obtain ⟨la, lb⟩ := ha.len hwf
  obtain ⟨ka, kb⟩ := hb.len hwf
  generalize (entAt E a).w = u at *
  generalize (entAt E b).w = v at *
  have HAD := Lib.hid (fun w => add1_any w (a := u.len) (b := v.len) (by omega) (by omega))
  simp only [if_pos (show u.len + v.len ≤ 1152921504606846976 by omega)] at HAD
  obtain ⟨sm, hsm⟩ : ∃ n, u.len + v.len = n := ⟨_, rfl⟩
  rw [hsm] at HAD
  have HS := Lib.hid hs; have HWF := Lib.hid hwf; have HA := Lib.hid ha; have HB' := Lib.hid hb; have HN0 := Lib.hid hn0
  have HNN := Lib.hid (And.intro hlen (And.intro hroom hE))
  have HKK := Lib.hid hk
  have hcs : (a = 0) ∨ (a ≠ 0 ∧ b = 0) ∨ (a ≠ 0 ∧ b ≠ 0) := by omega
  unfold wtV at HWA HWB
  clear hs hwf ha hb hlen hroom hE hn0 la lb ka kb hsm hE' hk
  rcases hcs with ga | ⟨ga, gb⟩ | ⟨ga, gb⟩
  · have e1 : ((a : Int) == 0) = true := by simp [ga]
    have HZ : Hid (∀ w, Below W.heap.size W w → JnP n0 B most k E W (s ++ t) (.returned (.tuple #[.int .i64 (b : Nat), .nilIface])) w) := Lib.hid (fun w hw => by
      have h0 : s = [] := (HA.out.zero HWF.out).1 ga
      subst h0
      exact ⟨E, b, rfl, HS.out.below hw, HWF.out, Ext.refl _, by omega, HB'.out, hw.mono HN0.out, Kt.of hw⟩)
    clear ga
    go_enter Try.func81, Try.ntmps81
    go_wp2_with fail
    refine HWA.out.mono ?_; rintro e w1 ⟨rfl, b1⟩
    obtain ⟨wz, w2, hz, hs1, kw, bw, ⟨p0, p1, p2, p3, p4, p5⟩, q0, q1, q2, q3, q4, q5⟩ := newWt w1 u
    obtain ⟨gc, hgc⟩ : ∃ g, w1.heap.size = g := ⟨_, rfl⟩
    rw [hgc] at hs1 kw p0 p1 p2 p3 p4 p5 q0 q1 q2 q3 q4 q5
    have HB2 := Lib.hid (Below.after b1 bw); have KU := Lib.hid kw
    clear b1 kw bw
    go_wp2_with fail
    clear hz hs1 p0 p1 p2 p3 p4 p5 q0 q1 q2 q3 q4 q5 hgc
    refine (HWB.out w2 HB2.out).mono ?_; rintro e w3 ⟨rfl, b3⟩
    obtain ⟨wz, w4, hz, hs1, kw, bw, ⟨p0, p1, p2, p3, p4, p5⟩, q0, q1, q2, q3, q4, q5⟩ := newWt w3 v
    obtain ⟨gd, hgd⟩ : ∃ g, w3.heap.size = g := ⟨_, rfl⟩
    rw [hgd] at hs1 kw p0 p1 p2 p3 p4 p5 q0 q1 q2 q3 q4 q5
    have b4 := Below.after b3 bw
    have HB4 := Lib.hid (Below.after HB2.out b4); have KV := Lib.hid kw; have KU4 := Lib.hid (show WtC w4 gc u from below_block b4 KU.out)
    clear b3 b4 kw bw
    go_wp2_with fail
    clear hz hs1 p0 p1 p2 p3 p4 p5 q0 q1 q2 q3 q4 q5 hgd
    refine (HEA.out w4 HB4.out).mono ?_; rintro e w5 ⟨rfl, b5⟩
    have HB5 := Lib.hid (Below.after HB4.out b5); have KV5 := Lib.hid (show WtC w5 gd v from below_block b5 KV.out); have KU5 := Lib.hid (show WtC w5 gc u from below_block b5 KU4.out)
    clear b5
    go_wp2_with fail
    refine (HEB.out w5 HB5.out).mono ?_; rintro e w6 ⟨rfl, b6⟩
    have HB6 := Lib.hid (Below.after HB5.out b6)
    obtain ⟨x0, -, -, -, -, -⟩ := WtC.cells (show WtC w6 gd v from below_block b6 KV5.out)
    obtain ⟨y0, -, -, -, -, -⟩ := WtC.cells (show WtC w6 gc u from below_block b6 KU5.out)
    clear b6
    go_wp2_with fail
    refine (HAD.out w6).mono ?_; rintro e w ⟨rfl, h⟩; rw [h]; clear h w
    clear x0 y0
    go_wp2_with fail
    go_ret2
    exact HZ.out w6 HB6.out
  · have e1 : ((a : Int) == 0) = false := by simp; omega
    have e2 : ((b : Int) == 0) = true := by simp [gb]
    have HZ : Hid (∀ w, Below W.heap.size W w → JnP n0 B most k E W (s ++ t) (.returned (.tuple #[.int .i64 (a : Nat), .nilIface])) w) := Lib.hid (fun w hw => by
      have h0 : t = [] := (HB'.out.zero HWF.out).1 gb
      subst h0
      rw [List.append_nil]
      exact ⟨E, a, rfl, HS.out.below hw, HWF.out, Ext.refl _, by omega, HA.out, hw.mono HN0.out, Kt.of hw⟩)
    clear ga gb
    go_enter Try.func81, Try.ntmps81
    go_wp2_with fail
    refine HWA.out.mono ?_; rintro e w1 ⟨rfl, b1⟩
    obtain ⟨wz, w2, hz, hs1, kw, bw, ⟨p0, p1, p2, p3, p4, p5⟩, q0, q1, q2, q3, q4, q5⟩ := newWt w1 u
    obtain ⟨gc, hgc⟩ : ∃ g, w1.heap.size = g := ⟨_, rfl⟩
    rw [hgc] at hs1 kw p0 p1 p2 p3 p4 p5 q0 q1 q2 q3 q4 q5
    have HB2 := Lib.hid (Below.after b1 bw); have KU := Lib.hid kw
    clear b1 kw bw
    go_wp2_with fail
    clear hz hs1 p0 p1 p2 p3 p4 p5 q0 q1 q2 q3 q4 q5 hgc
    refine (HWB.out w2 HB2.out).mono ?_; rintro e w3 ⟨rfl, b3⟩
    obtain ⟨wz, w4, hz, hs1, kw, bw, ⟨p0, p1, p2, p3, p4, p5⟩, q0, q1, q2, q3, q4, q5⟩ := newWt w3 v
    obtain ⟨gd, hgd⟩ : ∃ g, w3.heap.size = g := ⟨_, rfl⟩
    rw [hgd] at hs1 kw p0 p1 p2 p3 p4 p5 q0 q1 q2 q3 q4 q5
    have b4 := Below.after b3 bw
    have HB4 := Lib.hid (Below.after HB2.out b4); have KV := Lib.hid kw; have KU4 := Lib.hid (show WtC w4 gc u from below_block b4 KU.out)
    clear b3 b4 kw bw
    go_wp2_with fail
    clear hz hs1 p0 p1 p2 p3 p4 p5 q0 q1 q2 q3 q4 q5 hgd
    refine (HEA.out w4 HB4.out).mono ?_; rintro e w5 ⟨rfl, b5⟩
    have HB5 := Lib.hid (Below.after HB4.out b5); have KV5 := Lib.hid (show WtC w5 gd v from below_block b5 KV.out); have KU5 := Lib.hid (show WtC w5 gc u from below_block b5 KU4.out)
    clear b5
    go_wp2_with fail
    refine (HEB.out w5 HB5.out).mono ?_; rintro e w6 ⟨rfl, b6⟩
    have HB6 := Lib.hid (Below.after HB5.out b6)
    obtain ⟨x0, -, -, -, -, -⟩ := WtC.cells (show WtC w6 gd v from below_block b6 KV5.out)
    obtain ⟨y0, -, -, -, -, -⟩ := WtC.cells (show WtC w6 gc u from below_block b6 KU5.out)
    clear b6
    go_wp2_with fail
    refine (HAD.out w6).mono ?_; rintro e w ⟨rfl, h⟩; rw [h]; clear h w
    clear x0 y0
    go_wp2_with fail
    go_ret2
    exact HZ.out w6 HB6.out
  · have e1 : ((a : Int) == 0) = false := by simp; omega
    have e2 : ((b : Int) == 0) = false := by simp; omega
    have HJ : Hid (∀ w, Below W.heap.size W w → Calls Try.prog 94 #[.pointer (some ⟨B, 0, none⟩), .int .i64 a, .int .i64 b] w (JnP n0 B most k E w (s ++ t))) := Lib.hid (fun w hw => by
      have ha := HA.out.bal (by omega)
      have hb := HB'.out.bal (by omega)
      have hnn := HNN.out
      have hkk := HKK.out _ _ ha hb
      refine (avlj_any _ rfl (HS.out.below hw) HWF.out ha hb hnn.1 (by omega) (by omega)).mono ?_
      intro e w' hj
      exact hj.jn.after (k1 := 0) rfl (Ext.refl _) (by omega) (by omega) (Below.refl _ _) (Kt.of (Below.refl _ _)))
    clear ga gb
    go_enter Try.func81, Try.ntmps81
    go_wp2_with fail
    refine HWA.out.mono ?_; rintro e w1 ⟨rfl, b1⟩
    obtain ⟨wz, w2, hz, hs1, kw, bw, ⟨p0, p1, p2, p3, p4, p5⟩, q0, q1, q2, q3, q4, q5⟩ := newWt w1 u
    obtain ⟨gc, hgc⟩ : ∃ g, w1.heap.size = g := ⟨_, rfl⟩
    rw [hgc] at hs1 kw p0 p1 p2 p3 p4 p5 q0 q1 q2 q3 q4 q5
    have HB2 := Lib.hid (Below.after b1 bw); have KU := Lib.hid kw
    clear b1 kw bw
    go_wp2_with fail
    clear hz hs1 p0 p1 p2 p3 p4 p5 q0 q1 q2 q3 q4 q5 hgc
    refine (HWB.out w2 HB2.out).mono ?_; rintro e w3 ⟨rfl, b3⟩
    obtain ⟨wz, w4, hz, hs1, kw, bw, ⟨p0, p1, p2, p3, p4, p5⟩, q0, q1, q2, q3, q4, q5⟩ := newWt w3 v
    obtain ⟨gd, hgd⟩ : ∃ g, w3.heap.size = g := ⟨_, rfl⟩
    rw [hgd] at hs1 kw p0 p1 p2 p3 p4 p5 q0 q1 q2 q3 q4 q5
    have b4 := Below.after b3 bw
    have HB4 := Lib.hid (Below.after HB2.out b4); have KV := Lib.hid kw; have KU4 := Lib.hid (show WtC w4 gc u from below_block b4 KU.out)
    clear b3 b4 kw bw
    go_wp2_with fail
    clear hz hs1 p0 p1 p2 p3 p4 p5 q0 q1 q2 q3 q4 q5 hgd
    refine (HEA.out w4 HB4.out).mono ?_; rintro e w5 ⟨rfl, b5⟩
    have HB5 := Lib.hid (Below.after HB4.out b5); have KV5 := Lib.hid (show WtC w5 gd v from below_block b5 KV.out); have KU5 := Lib.hid (show WtC w5 gc u from below_block b5 KU4.out)
    clear b5
    go_wp2_with fail
    refine (HEB.out w5 HB5.out).mono ?_; rintro e w6 ⟨rfl, b6⟩
    have HB6 := Lib.hid (Below.after HB5.out b6)
    obtain ⟨x0, -, -, -, -, -⟩ := WtC.cells (show WtC w6 gd v from below_block b6 KV5.out)
    obtain ⟨y0, -, -, -, -, -⟩ := WtC.cells (show WtC w6 gc u from below_block b6 KU5.out)
    clear b6
    go_wp2_with fail
    refine (HAD.out w6).mono ?_; rintro e w ⟨rfl, h⟩; rw [h]; clear h w
    clear x0 y0
    go_wp2_with fail
    refine (HJ.out w6 HB6.out).mono ?_
    intro e w7 hj
    obtain ⟨i2, rfl⟩ := hj.ret
    have HZ := Lib.hid (hj.read HB6.out HN0.out)
    clear hj
    go_wp2_with fail
    go_ret2
    exact HZ.out
theorem avlJoin_any {n0 B most : Nat} {W : World} {E : List En} (hs : StAt n0 W B most E) (hwf : WfD E) {a b : Nat} {s t : List Nat} (ha : Bal0 E a s) (hb : Bal0 E b t) (hlen : s.length + t.length ≤ 1152921504606846976) (hroom : E.length + 260 ≤ most) (hE : E.length + 260 ≤ 1048576) :
    Calls Try.prog 81 #[.pointer (some ⟨B, 0, none⟩), .int .i64 a, .int .i64 b] W (JnP n0 B most 260 E W (s ++ t)) :=
  avlJoinK_any hs hwf ha hb hlen (fun da db h1 h2 => by
    have d1 := h1.deep hwf
    have d2 := h2.deep hwf
    unfold joK; omega) hroom hE
/-- No balanced text of M letters at most is deeper than D. -/
def Dep (D M : Nat) : Prop := M < (lst (D + 1)).1 ∧ M ≤ 1152921504606846976
theorem dep_all : Dep 86 1152921504606846976 := ⟨lst_87, Nat.le_refl _⟩
theorem Dep.le {D M : Nat} (h : Dep D M) {E : List En} (hE : WfD E) {i d : Nat} {t : List Nat} (hb : Bal E i t d) (ht : t.length ≤ M) : d ≤ D := by
  rcases Nat.lt_or_ge D d with g | g
  · have h1 := hb.least hE
    have h2 := lst_mono (d - (D + 1)) (D + 1)
    rw [show D + 1 + (d - (D + 1)) = d by omega] at h2
    have h3 := h.1
    omega
  · exact g
/-- The same for texts that are not deep. -/
theorem avlJoinD_any {n0 B most D M : Nat} (hD : Dep D M) {W : World} {E : List En} (hs : StAt n0 W B most E) (hwf : WfD E) {a b : Nat} {s t : List Nat} (ha : Bal0 E a s) (hb : Bal0 E b t) (hlen : s.length + t.length ≤ M) (hroom : E.length + (3 * D + 1) ≤ most) (hE : E.length + (3 * D + 1) ≤ 1048576) :
    Calls Try.prog 81 #[.pointer (some ⟨B, 0, none⟩), .int .i64 a, .int .i64 b] W (JnP n0 B most (3 * D + 1) E W (s ++ t)) :=
  avlJoinK_any hs hwf ha hb (by have := hD.2; omega) (fun da db h1 h2 => by
    have d1 := hD.le hwf h1 (by omega)
    have d2 := hD.le hwf h2 (by omega)
    unfold joK; omega) hroom hE
end M
end Go.Proofs.Ytplccefjljdjnaa
