/- anchor.MapSpan. -/
import Derived.Test.YtplccefjljdjnaaBack
import Derived.Test.YtplccefjljdjnaaAncP
set_option linter.unusedVariables false
set_option linter.unusedSimpArgs false
namespace Go.Proofs.Ytplccefjljdjnaa
open Go.RowKit Go.Lib
namespace M
attribute [local go_sem] Oper.semAt_some
def SnC (W : World) (g : Nat) (f n : Int) : Prop := W.heap[g]? = some (.cells #[.int .i64 f, .int .i64 n] 57 (0, 0))
theorem SnC.cells {W : World} {g : Nat} {f n : Int} (h : SnC W g f n) : W.cell? ⟨g, 0, none⟩ = some (.int .i64 f) ∧ W.cell? ⟨g, 1, none⟩ = some (.int .i64 n) ∧ W.frozen? ⟨g, 0, none⟩ = false ∧ W.frozen? ⟨g, 1, none⟩ = false := by
  unfold SnC at h
  simp [World.cell?, World.frozen?, h]
theorem SnC.set {W : World} {g : Nat} {f n : Int} (h : SnC W g f n) (y z : Int) : SnC ((W.setCell ⟨g, 0, none⟩ (.int .i64 y)).setCell ⟨g, 1, none⟩ (.int .i64 z)) g y z := by
  unfold SnC at h ⊢
  exact heap_set0 _ (heap_set0 _ h)
/-- What MapSpan answers: an error's number; the range. -/
def spnF (E : List En) (len : Int) (L : List Chg) (f n : Int) : Int := if rngB f n len then (lngF E len L).2 else 1
def mx0 (d : Int) : Int := if d < 0 then 0 else d
def spnR (E : List En) (len : Int) (L : List Chg) (f n : Int) : Int × Int :=
  ((ancF (mvsF E 0 L) (lngF E len L).1 len f true).1, mx0 ((ancF (mvsF E 0 L) (lngF E len L).1 len (f + n) false).1 - (ancF (mvsF E 0 L) (lngF E len L).1 len f true).1))
def SpanP (E : List En) (len : Int) (L : List Chg) (f n : Int) (W : World) (e : Ending) (w' : World) : Prop :=
  ((spnF E len L f n = 0 ∧ e = .returned (.tuple #[.agg #[.int .i64 (spnR E len L f n).1, .int .i64 (spnR E len L f n).2], .nilIface])) ∨
  (spnF E len L f n ≠ 0 ∧ e = .returned (.tuple #[.agg #[.int .i64 0, .int .i64 0], err (spnF E len L f n)]))) ∧ Below W.heap.size W w'
set_option maxRecDepth 100000 in
set_option maxHeartbeats 4000000 in
theorem span_any {n0 B most b0 : Nat} {W : World} {E : List En} (hs : StAt n0 W B most E) (hwf : Wf E) (hE : E.length ≤ 1048576) {v : Value} {L : List Chg} (hC : Chs b0 W v L) (hT : Txs E L) (hLb : L.length ≤ 1000000) (len f n : Int) :
    Calls Try.prog 27 #[.pointer (some ⟨B, 0, none⟩), .int .i64 len, v, .agg #[.int .i64 f, .int .i64 n]] W (SpanP E len L f n W) := by
  obtain ⟨va, vc, rfl⟩ := hC.len
  obtain ⟨W1, hW1⟩ : ∃ w, (W.alloc (.cells #[.int .i64 f, .int .i64 n] 57)).alloc (.cells #[.int .i64 0, .int .i64 0] 57) = w := ⟨_, rfl⟩
  have b1 : Below W.heap.size W W1 := by rw [← hW1]; exact ((Below.refl _ W).alloc (Nat.le_refl _) _).alloc (by simp) _
  have k1 : SnC W1 W.heap.size f n := by rw [← hW1]; exact below_block ((Below.refl _ _).alloc (Nat.le_refl _) _) (heap_new' W _)
  have k2 : SnC W1 (W.heap.size + 1) 0 0 := by
    rw [← hW1]
    have := heap_new' (W.alloc (.cells #[.int .i64 f, .int .i64 n] 57)) (.cells #[.int .i64 0, .int .i64 0] 57)
    rw [World.size_alloc] at this
    exact this
  have HRG := Lib.hid (rng_any W1 f n len)
  have HPR := Lib.hid (prepare_any (hs.below b1) hwf hE (hC.below b1) hT hLb (RowAn.none W1) (by simp) len)
  obtain ⟨c0, c1, f0, f1⟩ := k1.cells
  have K1 := Lib.hid k1; have K2 := Lib.hid k2; have B1 := Lib.hid b1
  have HEND : Hid (∀ (w : World) (y z : Int), SnC w (W.heap.size + 1) 0 0 → Below W.heap.size W w → ∃ w2, (w.setCell ⟨W.heap.size + 1, 0, none⟩ (.int .i64 y)).setCell ⟨W.heap.size + 1, 1, none⟩ (.int .i64 z) = w2 ∧ SnC w2 (W.heap.size + 1) y z ∧ Below W.heap.size W w2) := Lib.hid (fun w y z h hb => ⟨_, rfl, h.set y z, (hb.setCell (p := ⟨W.heap.size + 1, 0, none⟩) (by simp) _).setCell (p := ⟨W.heap.size + 1, 1, none⟩) (by simp) _⟩)
  have HOKP : Hid (∀ (w : World) (y z : Int), spnF E len L f n = 0 → spnR E len L f n = (y, z) → Below W.heap.size W w → SpanP E len L f n W (.returned (.tuple #[.agg #[.int .i64 y, .int .i64 z], .nilIface])) w) := Lib.hid (fun w y b h1 h2 h3 => ⟨.inl ⟨h1, by rw [h2]⟩, h3⟩)
  have HBADP : Hid (∀ (w : World) (c : Int), spnF E len L f n = c → c ≠ 0 → Below W.heap.size W w → SpanP E len L f n W (.returned (.tuple #[.agg #[.int .i64 0, .int .i64 0], err c])) w) := Lib.hid (fun w c h1 h2 h3 => ⟨.inr ⟨by rw [h1]; exact h2, by rw [h1]⟩, h3⟩)
  clear hs hwf hC hT k1 k2 b1
  obtain ⟨w2, hw2, k2', hb2⟩ := HEND.out W1 0 0 K2.out B1.out
  obtain ⟨h0, h1, -, -⟩ := k2'.cells
  obtain ⟨e0, e1, g0, g1⟩ := K2.out.cells
  have HB2 := Lib.hid hb2
  clear k2' hb2
  cases hrg : rngB f n len with
  | false =>
    have HC1 : Hid (spnF E len L f n = 1) := Lib.hid (by unfold spnF; rw [hrg]; rfl)
    rw [hrg] at HRG
    clear hrg HEND HPR
    go_enter Try.func27, Try.ntmps27
    go_wp2_with fail
    refine HRG.out.mono ?_; rintro e w ⟨rfl, h⟩; rw [h]; clear h w
    simp only [Bool.false_eq_true, if_false]
    unfold err
    go_wp2_with fail
    exact bodyPost_ret (v := .tuple #[.agg #[.int .i64 0, .int .i64 0], err 1]) (by simp [results, Try.results27, go_sem, h0, h1, err]) rfl (HBADP.out _ 1 HC1.out (by omega) HB2.out)
  | true =>
    have HCE : Hid (spnF E len L f n = (lngF E len L).2) := Lib.hid (by unfold spnF; rw [hrg]; rfl)
    obtain ⟨r1, r2, r3, r4, r5, r6⟩ := rngB_iff.1 hrg
    unfold maxL at r2
    rw [hrg] at HRG
    clear hrg h0 h1 HB2 hw2
    go_enter Try.func27, Try.ntmps27
    go_wp2_with fail
    refine HRG.out.mono ?_; rintro e w ⟨rfl, h⟩; rw [h]; clear h w
    simp only [if_true]
    go_wp2_with fail
    refine HPR.out.mono ?_
    clear e0 e1 g0 g1 c0 c1 f0 f1
    rintro e w3 (⟨hp, mv, rfl, hM, b3⟩ | ⟨hp, rfl, b3⟩)
    · rw [prepF_nil] at hp
      obtain ⟨o1, o2, o3, o4, o5⟩ := lngF_ok hp
      have HCZ : Hid (spnF E len L f n = 0) := Lib.hid (by rw [HCE.out, hp])
      have HIB := Lib.hid (mvs_inB hp)
      have HSO := Lib.hid (mvsF_sorted (E := E) L (-1) 0 o3)
      have hi1 := anc_in hp (x := f) ⟨r3, r5⟩ true
      have hi2 := anc_in hp (x := f + n) ⟨by omega, by omega⟩ false
      have hd := del_le o1 o3
      have hnb : (lngF E len L).1 ≤ 1152921504606846976 := by omega
      obtain ⟨nl, hnl⟩ : ∃ n, (lngF E len L).1 = n := ⟨_, rfl⟩
      have HSR : Hid (spnR E len L f n = ((ancF (mvsF E 0 L) nl len f true).1, mx0 ((ancF (mvsF E 0 L) nl len (f + n) false).1 - (ancF (mvsF E 0 L) nl len f true).1))) := Lib.hid (by unfold spnR; rw [hnl])
      rw [hnl] at hi1 hi2 hnb ⊢
      obtain ⟨ma, mc, rfl⟩ := hM.len
      have HML : Hid ((mvsF E 0 L).length ≤ 1000000) := Lib.hid (by rw [mvsF_len]; exact hLb)
      obtain ⟨ml, hml⟩ : ∃ n, (mvsF E 0 L).length = n := ⟨_, rfl⟩
      rw [hml] at hM ⊢
      have B3 := Lib.hid (Below.after B1.out b3)
      have K13 := Lib.hid (show SnC w3 W.heap.size f n from below_block b3 K1.out); have K23 := Lib.hid (show SnC w3 (W.heap.size + 1) 0 0 from below_block b3 K2.out)
      obtain ⟨gm, hgm⟩ : ∃ g, w3.heap.size = g := ⟨_, rfl⟩
      obtain ⟨w4, hw4⟩ : ∃ w, w3.alloc (.cells #[.slice ma ml mc, .int .i64 nl] 96) = w := ⟨_, rfl⟩
      have k4 : MsC w4 gm (.slice ma ml mc) nl := by rw [← hw4, ← hgm]; exact heap_new' _ _
      have b4 : Below w3.heap.size w3 w4 := by rw [← hw4]; exact (Below.refl _ _).alloc (Nat.le_refl _) _
      have B4 := Lib.hid (Below.after B3.out b4)
      have K4 := Lib.hid k4
      have K14 := Lib.hid (show SnC w4 W.heap.size f n from below_block b4 K13.out); have K24 := Lib.hid (show SnC w4 (W.heap.size + 1) 0 0 from below_block b4 K23.out)
      obtain ⟨d0, d1, -, -⟩ := K14.out.cells
      obtain ⟨e0, e1, -, -⟩ := k4.cells
      have HM4 := Lib.hid (hM.below b4)
      have HAN := Lib.hid (anchor_any (nl := nl) (right := true) HM4.out HSO.out HML.out ⟨r3, r5, o2⟩ HIB.out)
      have hfw : IntKind.i64.wrap (f + n) = f + n := by rw [IntKind.wrap_i64]; omega
      have HAN2 : Hid (∀ w, Below w4.heap.size w4 w → Calls Try.prog 42 #[.agg #[.slice ma ml mc, .int .i64 nl], .int .i64 len, .agg #[.int .i64 (f + n), .bool false]] w fun e w' => e = .returned (.tuple #[.agg #[.int .i64 (ancF (mvsF E 0 L) nl len (f + n) false).1, .bool false], .bool (ancF (mvsF E 0 L) nl len (f + n) false).2]) ∧ Below w.heap.size w w') := Lib.hid (fun w hw => anchor_any (nl := nl) (right := false) (HM4.out.below hw) HSO.out HML.out ⟨by omega, by omega, o2⟩ HIB.out)
      generalize ancF (mvsF E 0 L) nl len f true = res1 at *
      generalize ancF (mvsF E 0 L) nl len (f + n) false = res2 at *
      obtain ⟨ra, rb⟩ := res1
      obtain ⟨sa, sb⟩ := res2
      dsimp only at HAN HAN2 HSR hi1 hi2
      have hws : IntKind.i64.wrap (sa - ra) = sa - ra := by rw [IntKind.wrap_i64]; omega
      clear hp hM b3 k4 b4 hnl hml HPR o1 o2 o3 o4 o5 hd hW1 hi1 hi2 r1 r2 r3 r4 r5 r6 hnb
      go_wp2_with fail
      refine HAN.out.mono ?_
      rintro e w5 ⟨rfl, b5⟩
      obtain ⟨wz, w6, hz, hs1, ka, ba, ⟨p0, p1⟩, f0, f1⟩ := newAn w5 ra true
      obtain ⟨ga, hga⟩ : ∃ g, w5.heap.size = g := ⟨_, rfl⟩
      rw [hga] at hs1 p0 p1 f0 f1 ka
      have b6 := Below.after b5 ba
      have K26 : Hid (SnC w6 (W.heap.size + 1) 0 0) := Lib.hid (below_block b6 K24.out)
      obtain ⟨z0, z1, -, -⟩ := SnC.cells (show SnC w6 W.heap.size f n from below_block b6 K14.out)
      obtain ⟨y0, y1, -, -⟩ := MsC.cells (show MsC w6 gm (.slice ma ml mc) nl from below_block b6 K4.out)
      have KA := Lib.hid ka
      have B6 := Lib.hid (Below.after B4.out b6)
      have HAN3 := Lib.hid (HAN2.out w6 b6)
      clear ka ba b5 b6 HAN HAN2 hw4 hgm d0 d1 e0 e1
      go_wp2_with fail
      clear hz hs1 p0 p1 f0 f1 hga
      refine HAN3.out.mono ?_
      rintro e w7 ⟨rfl, b7⟩
      obtain ⟨wz, w8, hz, hs1, ka, ba, ⟨p0, p1⟩, f0, f1⟩ := newAn w7 sa false
      obtain ⟨gb, hgb⟩ : ∃ g, w7.heap.size = g := ⟨_, rfl⟩
      rw [hgb] at hs1 p0 p1 f0 f1 ka
      obtain ⟨x0, x1, -, -⟩ := ka.cells
      have b8 := Below.after b7 ba
      obtain ⟨t0, t1, -, -⟩ := AnC.cells (show AnC w8 ga ra true from below_block b8 KA.out)
      have K28 : SnC w8 (W.heap.size + 1) 0 0 := below_block b8 K26.out
      obtain ⟨q0, q1, q2, q3⟩ := K28.cells
      have HB8 := Lib.hid (Below.after B6.out b8)
      have K28' := Lib.hid K28
      clear ka ba b7 b8 HAN3 K28 z0 z1 y0 y1
      by_cases hneg : sa - ra < 0
      · obtain ⟨w9, hw9, k9, hb9⟩ := HEND.out w8 ra 0 K28'.out HB8.out
        obtain ⟨h0, h1, -, -⟩ := k9.cells
        have HB9 := Lib.hid hb9
        have HR2 : Hid (spnR E len L f n = (ra, 0)) := Lib.hid (by rw [HSR.out]; unfold mx0; rw [if_pos hneg])
        clear k9 hb9 HEND
        go_wp2_with fail
        exact bodyPost_ret (v := .tuple #[.agg #[.int .i64 ra, .int .i64 0], .nilIface]) (by simp [results, Try.results27, go_sem, h0, h1]) rfl (HOKP.out _ _ _ HCZ.out HR2.out HB9.out)
      · obtain ⟨w9, hw9, k9, hb9⟩ := HEND.out w8 ra (sa - ra) K28'.out HB8.out
        obtain ⟨h0, h1, -, -⟩ := k9.cells
        have HB9 := Lib.hid hb9
        have HR2 : Hid (spnR E len L f n = (ra, sa - ra)) := Lib.hid (by rw [HSR.out]; unfold mx0; rw [if_neg hneg])
        clear k9 hb9 HEND
        go_wp2_with fail
        exact bodyPost_ret (v := .tuple #[.agg #[.int .i64 ra, .int .i64 (sa - ra)], .nilIface]) (by simp [results, Try.results27, go_sem, h0, h1]) rfl (HOKP.out _ _ _ HCZ.out HR2.out HB9.out)
    · rw [prepF_nil] at hp ⊢
      obtain ⟨cd, hcd⟩ : ∃ c, (lngF E len L).2 = c := ⟨_, rfl⟩
      rw [hcd] at hp HCE ⊢
      have HNZ := Lib.hid hp
      unfold err
      have K23 := Lib.hid (show SnC w3 (W.heap.size + 1) 0 0 from below_block b3 K2.out)
      have B3 := Lib.hid (Below.after B1.out b3)
      obtain ⟨w4, hw4⟩ : ∃ w, w3.alloc (.cells #[.slice none 0 0, .int .i64 0] 96) = w := ⟨_, rfl⟩
      have b4 : Below w3.heap.size w3 w4 := by rw [← hw4]; exact (Below.refl _ _).alloc (Nat.le_refl _) _
      have k4 : MsC w4 w3.heap.size (.slice none 0 0) 0 := by rw [← hw4]; exact heap_new' _ _
      obtain ⟨e0, e1, e2, e3⟩ := k4.cells
      obtain ⟨w5, hw5⟩ : ∃ w, (w4.setCell ⟨w3.heap.size, 0, none⟩ (.slice none 0 0)).setCell ⟨w3.heap.size, 1, none⟩ (.int .i64 0) = w := ⟨_, rfl⟩
      have b5 : Below w3.heap.size w3 w5 := by rw [← hw5]; exact (b4.setCell (p := ⟨w3.heap.size, 0, none⟩) (Nat.le_refl _) _).setCell (p := ⟨w3.heap.size, 1, none⟩) (Nat.le_refl _) _
      have K24 : SnC w5 (W.heap.size + 1) 0 0 := below_block b5 K23.out
      obtain ⟨z0, z1, z2, z3⟩ := K24.cells
      obtain ⟨w7, hw7, k7, hb7⟩ := HEND.out w5 0 0 K24 (Below.after B3.out b5)
      obtain ⟨h0, h1, -, -⟩ := k7.cells
      have HB7 := Lib.hid hb7
      clear b3 b4 b5 k4 K24 k7 hb7 HEND HPR hcd hp hW1 r1 r2 r3 r4 r5 r6
      go_wp2_with fail
      exact bodyPost_ret (v := .tuple #[.agg #[.int .i64 0, .int .i64 0], err cd]) (by simp [results, Try.results27, go_sem, h0, h1, err]) rfl (HBADP.out _ cd HCE.out HNZ.out HB7.out)
end M
end Go.Proofs.Ytplccefjljdjnaa
