/- AnchorSpans: the walk. -/
import Derived.Test.YtplccefjljdjnaaMapsC
namespace Go.Proofs.Ytplccefjljdjnaa
open Go.RowKit Go.Lib
namespace M
attribute [local go_sem] Oper.semAt_some
/-- A box into which a range is laid. -/
theorem newSn (w : World) (x n : Int) : ∃ wz w2, w.alloc (.cells #[.int .i64 0, .int .i64 0] 57) = wz ∧
    (wz.setCell ⟨w.heap.size, 0, none⟩ (.int .i64 x)).setCell ⟨w.heap.size, 1, none⟩ (.int .i64 n) = w2 ∧ SnC w2 w.heap.size x n ∧ Below w.heap.size w w2 ∧
    (wz.cell? ⟨w.heap.size, 0, none⟩ = some (.int .i64 0) ∧ wz.cell? ⟨w.heap.size, 1, none⟩ = some (.int .i64 0)) ∧ (wz.frozen? ⟨w.heap.size, 0, none⟩ = false ∧ wz.frozen? ⟨w.heap.size, 1, none⟩ = false) := by
  have k0 : SnC (w.alloc (.cells #[.int .i64 0, .int .i64 0] 57)) w.heap.size 0 0 := heap_new' _ _
  have b0 : Below w.heap.size w (w.alloc (.cells #[.int .i64 0, .int .i64 0] 57)) := (Below.refl _ _).alloc (Nat.le_refl _) _
  obtain ⟨c0, c1, f0, f1⟩ := k0.cells
  exact ⟨_, _, rfl, rfl, k0.set x n, (b0.setCell (p := ⟨w.heap.size, 0, none⟩) (Nat.le_refl _) _).setCell (p := ⟨w.heap.size, 1, none⟩) (Nat.le_refl _) _, ⟨c0, c1⟩, f0, f1⟩
set_option maxRecDepth 100000 in
set_option maxHeartbeats 8000000 in
theorem spans_any {W : World} {c : Value} {S : List Spc} (hS : RowSp W c S) (hlow : LowS W c) (len x n : Int) (r : Bool) :
    Calls Try.prog 6 #[.agg #[.int .i64 len, c, .int .i64 x, .int .i64 n, .bool r]] W fun e w' => e = .returned (.bool true) ∧ Below W.heap.size W w' := by
  obtain ⟨W1, hW1⟩ : ∃ w, W.alloc (.cells #[.int .i64 len, c, .int .i64 x, .int .i64 n, .bool r] 24) = w := ⟨_, rfl⟩
  have b1 : Below W.heap.size W W1 := by rw [← hW1]; exact (Below.refl _ W).alloc (Nat.le_refl _) _
  have k1 : CaC W1 W.heap.size len c x n r := by rw [← hW1]; exact heap_new' W _
  obtain ⟨gc, hgc⟩ : ∃ g, W.heap.size = g := ⟨_, rfl⟩
  have hgl : gc < W1.heap.size := by rw [← hgc, ← hW1]; simp
  have HS1 := Lib.hid (hS.below b1)
  have HSM := Lib.hid (small_any (hS.below b1))
  have HLW : Hid (∀ (a : Addr) n k, c = .slice (some a) n k → 0 < n → a.block < W1.heap.size) := Lib.hid (fun a n k h h0 => Nat.lt_of_lt_of_le (hlow a n k h h0) b1.size)
  obtain ⟨a, cap, rfl, -⟩ := hS
  have B1 : Hid (Below W1.heap.size W1 W1) := Lib.hid (Below.refl _ _)
  have BB := Lib.hid b1
  rw [hgc] at k1
  have HKC : Hid (∀ w, Below W1.heap.size W1 w → CaC w gc len (.slice a S.length cap) x n r) := Lib.hid (fun w hw => by have := hw.block gc hgl; unfold CaC; rw [this]; exact k1)
  have HBE : Hid (∀ w, Below W1.heap.size W1 w → Below W.heap.size W w) := Lib.hid (fun w hw => BB.out.trans (hw.mono BB.out.size))
  have hgd : Try.prog.eqGuardType Try.prog.depth 33 = false := by kernel_rfl
  obtain ⟨c0, c1, c2, c3, c4⟩ := k1.cells
  clear b1 hlow hgl k1
  cases hsm : smallF S with
  | false =>
    rw [hsm] at HSM
    go_enter Try.func6, Try.ntmps6
    go_wp2_with fail
    refine HSM.out.mono ?_; rintro e w ⟨rfl, h⟩; rw [h]; clear h w
    go_wp2_with fail
    go_ret
    exact ⟨rfl, BB.out⟩
  | true =>
    rw [hsm] at HSM
    have HSY := Lib.hid hsm
    have HNW := Lib.hid (snew_any W1 1048576 (by omega))
    rw [show ((1048576 : Nat) : Int) = 1048576 from rfl] at HNW
    clear hsm
    have hgs : Try.prog.eqGuardType Try.prog.depth 57 = false := by kernel_rfl
    go_enter Try.func6, Try.ntmps6
    go_wp2_with fail
    refine HSM.out.mono ?_; rintro e w ⟨rfl, h⟩; rw [h]; clear h w
    go_wp2_with fail
    refine HNW.out.mono ?_
    rintro e w2 ⟨B, rfl, s2, b2⟩
    have HMD := Lib.hid (madeL_any s2 (HS1.out.below b2) HSY.out b2.size HLW.out)
    obtain ⟨d0, d1, d2, d3, d4⟩ := (HKC.out w2 b2).cells
    have B2 := Lib.hid b2
    clear s2 b2 HNW HSM c0 c1 c2 c3 c4 hW1
    go_wp2_with fail
    clear d0 d1 d2 d3 d4
    refine HMD.out.mono ?_
    rintro e w3 ⟨E, L, v1, v2, rfl, hM, b3⟩
    have HM3 := Lib.hid hM
    have hb3 := B2.out.trans b3
    have B3 := Lib.hid hb3
    have HN3 : Hid (W1.heap.size ≤ w3.heap.size) := Lib.hid hb3.size
    have HMX := Lib.hid (And.intro hM.wf (And.intro hM.le (And.intro hM.mt (And.intro hM.len hM.tl))))
    clear hM hb3 b3 HMD B2
    obtain ⟨d0, d1, d2, d3, d4⟩ := (HKC.out w3 B3.out).cells
    have HMP := Lib.hid (span_any HM3.out.st HM3.out.wf.wf HM3.out.le HM3.out.chs HM3.out.mt.2.1 (Nat.le_trans HM3.out.len (by decide)) len x n)
    unfold SpanP at HMP
    have HCD : Hid (spnF E len L x n = if rngB x n len then (lngF E len L).2 else 1) := Lib.hid rfl
    generalize hpc : spnF E len L x n = cd at *
    by_cases hcd : cd = 0
    rotate_left
    · go_wp2_with fail
      clear d0 d1 d2 d3 d4
      refine HMP.out.mono ?_
      rintro e w4 ⟨⟨h, -⟩ | ⟨-, rfl⟩, b4⟩
      · exact absurd h hcd
      unfold err
      obtain ⟨wz, w5, hz, hs1, ka, ba, ⟨p0, p1⟩, f0, f1⟩ := newSn w4 0 0
      obtain ⟨gKA, hg⟩ : ∃ g, w4.heap.size = g := ⟨_, rfl⟩
      rw [hg] at hs1 p0 p1 f0 f1 ka
      have bb := Below.after b4 ba
      have B5 : Hid (Below W1.heap.size W1 w5) := Lib.hid (B3.out.trans (bb.mono HN3.out))
      have HN5 : Hid (W1.heap.size ≤ w5.heap.size) := Lib.hid B5.out.size
      have HM5 := Lib.hid (HM3.out.below bb)
      clear HM3 
      have KA_5 := Lib.hid ka
      clear ka ba bb b4
      obtain ⟨d0, d1, d2, d3, d4⟩ := (HKC.out w5 B5.out).cells
      have HLN := Lib.hid (refLength_any HM5.out.rcs HM5.out.mt.2.2 (Nat.le_trans HM5.out.len (by decide)) HM5.out.tl len)
      clear HMP
      go_wp2_with fail
      clear hz hs1 p0 p1 f0 f1 hg
      clear d0 d1 d2 d3 d4
      refine HLN.out.mono ?_; rintro e w6 ⟨rfl, b6⟩
      have B6 : Hid (Below W1.heap.size W1 w6) := Lib.hid (B5.out.trans (b6.mono HN5.out))
      have HN6 : Hid (W1.heap.size ≤ w6.heap.size) := Lib.hid B6.out.size
      have HM6 := Lib.hid (HM5.out.below b6)
      have KA_6 := Lib.hid (show SnC w6 gKA 0 0 from below_block b6 KA_5.out)
      clear HM5 KA_5
      obtain ⟨d0, d1, d2, d3, d4⟩ := (HKC.out w6 B6.out).cells
      have HRG := Lib.hid (range01_any w6 x n len)
      have hcn : (cd != 0) = true := by simpa using hcd
      have HEV : Hid (errV cd = .iface 54 (.int .i64 cd)) := Lib.hid (by unfold errV; rw [if_neg hcd]; rfl)
      have heq := sn_eq 0 0 0 0
      rw [decide_eq_true (show (0 : Int) = 0 ∧ (0 : Int) = 0 from ⟨rfl, rfl⟩)] at heq
      clear b6 HLN
      obtain ⟨nl, hnl⟩ : ∃ n, (lngF E len L).1 = n := ⟨_, rfl⟩
      obtain ⟨ce, hce⟩ : ∃ n, (lngF E len L).2 = n := ⟨_, rfl⟩
      rw [hce] at HCD
      rw [hnl, hce]
      clear hnl hce hpc
      cases hrg : rngB x n len with
      | false =>
        rw [hrg] at HRG HCD
        have hc1 := HCD.out
        simp only [Bool.false_eq_true, if_false] at hc1
        subst hc1
        clear hrg hcd
        go_wp2_with fail
        refine HRG.out.mono ?_; rintro e w ⟨rfl, h⟩; rw [h]; clear h w
        clear HRG
        clear d0 d1 d2 d3 d4
        have HAW := Lib.hid (awake_any w6)
        go_wp2_with fail
        refine HAW.out.mono ?_; rintro e w7 ⟨rfl, b⟩
        have B7 : Hid (Below W1.heap.size W1 w7) := Lib.hid (B6.out.trans (b.mono HN6.out))
        have HN7 : Hid (W1.heap.size ≤ w7.heap.size) := Lib.hid B7.out.size
        have HM7 := Lib.hid (HM6.out.below b)
        have KA_7 := Lib.hid (show SnC w7 gKA 0 0 from below_block b KA_6.out)
        clear HM6 KA_6
        clear b HAW
        have HNM := Lib.hid (num_any w7 1)
        rw [HEV.out] at HNM
        obtain ⟨kay0, kay1, -, -⟩ := KA_7.out.cells
        go_wp2_with fail
        refine HNM.out.mono ?_; rintro e w ⟨rfl, h⟩; rw [h]; clear h w
        go_wp2_with fail
        go_ret
        exact ⟨rfl, HBE.out w7 B7.out⟩
      | true =>
        rw [hrg] at HRG HCD
        have hc1 := HCD.out
        simp only [if_true] at hc1
        subst hc1
        clear hrg hcd
        go_wp2_with fail
        refine HRG.out.mono ?_; rintro e w ⟨rfl, h⟩; rw [h]; clear h w
        clear HRG
        clear d0 d1 d2 d3 d4
        have HAW := Lib.hid (awake_any w6)
        go_wp2_with fail
        refine HAW.out.mono ?_; rintro e w7 ⟨rfl, b⟩
        have B7 : Hid (Below W1.heap.size W1 w7) := Lib.hid (B6.out.trans (b.mono HN6.out))
        have HN7 : Hid (W1.heap.size ≤ w7.heap.size) := Lib.hid B7.out.size
        have HM7 := Lib.hid (HM6.out.below b)
        have KA_7 := Lib.hid (show SnC w7 gKA 0 0 from below_block b KA_6.out)
        clear HM6 KA_6
        clear b HAW
        have HNM := Lib.hid (num_any w7 cd)
        rw [HEV.out] at HNM
        obtain ⟨kay0, kay1, -, -⟩ := KA_7.out.cells
        go_wp2_with fail
        refine HNM.out.mono ?_; rintro e w ⟨rfl, h⟩; rw [h]; clear h w
        go_wp2_with fail
        go_ret
        exact ⟨rfl, HBE.out w7 B7.out⟩
    · subst hcd
      have hrg : rngB x n len = true := by
        have h := HCD.out
        cases hh : rngB x n len with
        | true => rfl
        | false => rw [hh] at h; simp at h
      have hl0 : (lngF E len L).2 = 0 := by
        have h := HCD.out
        rw [hrg] at h
        simp only [if_true] at h
        exact h.symm
      have HL0 := Lib.hid hl0; have HRB := Lib.hid hrg
      obtain ⟨i1, i2, i3, i4, i5, i6⟩ := rngB_iff.1 hrg
      have HIN : Hid ((0 ≤ x ∧ x ≤ len) ∧ (0 ≤ x + n ∧ x + n ≤ len)) := Lib.hid ⟨⟨i3, i5⟩, by omega, by omega⟩
      unfold maxL at i2
      have hxn : IntKind.i64.wrap (x + n) = x + n := by rw [IntKind.wrap_i64]; omega
      have hin1 := anc_in hl0 HIN.out.1 true
      have hin2 := anc_in hl0 HIN.out.2 false
      have hnb : (lngF E len L).1 ≤ 1152921504606846976 := by
        obtain ⟨o1, o2, o3, o4, o5⟩ := lngF_ok hl0
        omega
      obtain ⟨ra, rb, hr1⟩ : ∃ a b, ancF (mvsF E 0 L) (lngF E len L).1 len x true = (a, b) := ⟨_, _, rfl⟩
      obtain ⟨sa, sb, hr2⟩ : ∃ a b, ancF (mvsF E 0 L) (lngF E len L).1 len (x + n) false = (a, b) := ⟨_, _, rfl⟩
      rw [hr1] at hin1
      rw [hr2] at hin2
      dsimp only at hin1 hin2
      have hws : IntKind.i64.wrap (sa - ra) = sa - ra := by rw [IntKind.wrap_i64]; omega
      obtain ⟨md, hmd⟩ : ∃ d, mx0 (sa - ra) = d := ⟨_, rfl⟩
      have hsr : spnR E len L x n = (ra, md) := by unfold spnR; rw [hr1, hr2, hmd]
      have HR1 := Lib.hid hr1; have HR2 := Lib.hid hr2; have HSR := Lib.hid hsr; have HMD := Lib.hid hmd
      clear hl0 hrg i1 i2 i3 i4 i5 i6 hr1 hr2 hsr hmd hin1 hin2 hnb
      go_wp2_with fail
      clear d0 d1 d2 d3 d4
      refine HMP.out.mono ?_
      rintro e w4 ⟨⟨-, rfl⟩ | ⟨h, -⟩, b4⟩
      rotate_left
      · exact absurd rfl h
      rw [HSR.out]
      dsimp only
      obtain ⟨wz, w5, hz, hs1, ka, ba, ⟨p0, p1⟩, f0, f1⟩ := newSn w4 ra md
      obtain ⟨gKA, hg⟩ : ∃ g, w4.heap.size = g := ⟨_, rfl⟩
      rw [hg] at hs1 p0 p1 f0 f1 ka
      have bb := Below.after b4 ba
      have B5 : Hid (Below W1.heap.size W1 w5) := Lib.hid (B3.out.trans (bb.mono HN3.out))
      have HN5 : Hid (W1.heap.size ≤ w5.heap.size) := Lib.hid B5.out.size
      have HM5 := Lib.hid (HM3.out.below bb)
      clear HM3 
      have KA_5 := Lib.hid ka
      clear ka ba bb b4
      obtain ⟨d0, d1, d2, d3, d4⟩ := (HKC.out w5 B5.out).cells
      have HLN := Lib.hid (refLength_any HM5.out.rcs HM5.out.mt.2.2 (Nat.le_trans HM5.out.len (by decide)) HM5.out.tl len)
      rw [HL0.out] at HLN
      obtain ⟨nl, hnl⟩ : ∃ n, (lngF E len L).1 = n := ⟨_, rfl⟩
      rw [hnl] at HLN
      clear HMP hnl
      go_wp2_with fail
      clear hz hs1 p0 p1 f0 f1 hg
      clear d0 d1 d2 d3 d4
      refine HLN.out.mono ?_; rintro e w6 ⟨rfl, b6⟩
      have B6 : Hid (Below W1.heap.size W1 w6) := Lib.hid (B5.out.trans (b6.mono HN5.out))
      have HN6 : Hid (W1.heap.size ≤ w6.heap.size) := Lib.hid B6.out.size
      have HM6 := Lib.hid (HM5.out.below b6)
      have KA_6 := Lib.hid (show SnC w6 gKA ra md from below_block b6 KA_5.out)
      clear HM5 KA_5
      obtain ⟨d0, d1, d2, d3, d4⟩ := (HKC.out w6 B6.out).cells
      have HRG := Lib.hid (range01_any w6 x n len)
      rw [HRB.out] at HRG
      clear b6 HLN
      go_wp2_with fail
      refine HRG.out.mono ?_; rintro e w ⟨rfl, h⟩; rw [h]; clear h w
      clear HRG
      clear d0 d1 d2 d3 d4
      have HAW := Lib.hid (awake_any w6)
      go_wp2_with fail
      refine HAW.out.mono ?_; rintro e w7 ⟨rfl, b⟩
      have B7 : Hid (Below W1.heap.size W1 w7) := Lib.hid (B6.out.trans (b.mono HN6.out))
      have HN7 : Hid (W1.heap.size ≤ w7.heap.size) := Lib.hid B7.out.size
      have HM7 := Lib.hid (HM6.out.below b)
      have KA_7 := Lib.hid (show SnC w7 gKA ra md from below_block b KA_6.out)
      clear HM6 KA_6
      clear b HAW
      obtain ⟨d0, d1, d2, d3, d4⟩ := (HKC.out w7 B7.out).cells
      have HNM := Lib.hid (num_nil w7)
      go_wp2_with fail
      refine HNM.out.mono ?_; rintro e w ⟨rfl, h⟩; rw [h]; clear h w
      have HRM := Lib.hid (refMap_any HM7.out.rcs HM7.out.mt.2.2 (Nat.le_trans HM7.out.len (by decide)) HM7.out.tl HIN.out.1 HL0.out true)
      rw [HR1.out] at HRM
      go_wp2_with fail
      clear d0 d1 d2 d3 d4
      refine HRM.out.mono ?_; rintro e w8 ⟨rfl, b8⟩
      have B8 : Hid (Below W1.heap.size W1 w8) := Lib.hid (B7.out.trans (b8.mono HN7.out))
      have HN8 : Hid (W1.heap.size ≤ w8.heap.size) := Lib.hid B8.out.size
      have HM8 := Lib.hid (HM7.out.below b8)
      have KA_8 := Lib.hid (show SnC w8 gKA ra md from below_block b8 KA_7.out)
      clear HM7 KA_7
      obtain ⟨d0, d1, d2, d3, d4⟩ := (HKC.out w8 B8.out).cells
      clear HRM b8
      have HRM := Lib.hid (refMap_any HM8.out.rcs HM8.out.mt.2.2 (Nat.le_trans HM8.out.len (by decide)) HM8.out.tl HIN.out.2 HL0.out false)
      rw [HR2.out] at HRM
      go_wp2_with fail
      clear d0 d1 d2 d3 d4
      refine HRM.out.mono ?_; rintro e w9 ⟨rfl, b9⟩
      have B9 : Hid (Below W1.heap.size W1 w9) := Lib.hid (B8.out.trans (b9.mono HN8.out))
      have HN9 : Hid (W1.heap.size ≤ w9.heap.size) := Lib.hid B9.out.size
      have HM9 := Lib.hid (HM8.out.below b9)
      have KA_9 := Lib.hid (show SnC w9 gKA ra md from below_block b9 KA_8.out)
      clear HM8 KA_8
      clear HRM b9
      obtain ⟨kay0, kay1, -, -⟩ := KA_9.out.cells
      have heq := sn_eq ra ra md md
      rw [decide_eq_true (show ra = ra ∧ md = md from ⟨rfl, rfl⟩)] at heq
      by_cases hneg : sa - ra < 0
      · have hm : md = 0 := by rw [← HMD.out]; unfold mx0; rw [if_pos hneg]
        subst hm
        go_wp2_with fail
        go_ret
        exact ⟨rfl, HBE.out w9 B9.out⟩
      · have hm : md = sa - ra := by rw [← HMD.out]; unfold mx0; rw [if_neg hneg]
        subst hm
        go_wp2_with fail
        go_ret
        exact ⟨rfl, HBE.out w9 B9.out⟩
end M
end Go.Proofs.Ytplccefjljdjnaa
