/- AnchorReturns: the walk. -/
import Derived.Test.YtplccefjljdjnaaMapsC
namespace Go.Proofs.Ytplccefjljdjnaa
open Go.RowKit Go.Lib
namespace M
attribute [local go_sem] Oper.semAt_some
theorem ret_plain {E : List En} {len x a : Int} {L : List Chg} (h : (lngF E len L).2 = 0) (hx : 0 ≤ x ∧ x < len) (hr : ancF (mvsF E 0 L) (lngF E len L).1 len x true = (a, true)) : bckF E len L a = 0 ∧ letB (mvsF E 0 L) a = (x, true) := by
  obtain ⟨o1, o2, o3, o4, o5⟩ := lngF_ok h
  rw [anc_R o3, if_neg (by omega)] at hr
  simp only [Prod.mk.injEq] at hr
  obtain ⟨h1, h2⟩ := hr
  obtain ⟨b1, b2⟩ := mapF_lo (E := E) (y := x) L (-1) 0 0 o3 (by omega) hx.1
  obtain ⟨c1, c2, c3⟩ := mapF_hi (E := E) (y := x) hx.2 L (-1) 0 o3
  have hm := moreF_eq E L 0
  have hk := c3 h2
  unfold plL at c2
  rw [if_pos h2] at c2
  refine ⟨?_, ?_⟩
  · unfold bckF
    rw [if_neg (by simpa using h), if_pos (by omega)]
  · rw [letB_eq o3, ← h1]
    exact back_map L (-1) 0 o3 h2
set_option maxRecDepth 100000 in
set_option maxHeartbeats 8000000 in
theorem returns_any {W : World} {c : Value} {S : List Spc} (hS : RowSp W c S) (hlow : LowS W c) (len x n : Int) (r : Bool) :
    Calls Try.prog 8 #[.agg #[.int .i64 len, c, .int .i64 x, .int .i64 n, .bool r]] W fun e w' => e = .returned (.bool true) ∧ Below W.heap.size W w' := by
  obtain ⟨W1, hW1⟩ : ∃ w, W.alloc (.cells #[.int .i64 len, c, .int .i64 x, .int .i64 n, .bool r] 24) = w := ⟨_, rfl⟩
  have b1 : Below W.heap.size W W1 := by rw [← hW1]; exact (Below.refl _ W).alloc (Nat.le_refl _) _
  have k1 : CaC W1 W.heap.size len c x n r := by rw [← hW1]; exact heap_new' W _
  obtain ⟨gc, hgc⟩ : ∃ g, W.heap.size = g := ⟨_, rfl⟩
  have hgl : gc < W1.heap.size := by rw [← hgc, ← hW1]; simp
  have HS1 := Lib.hid (hS.below b1)
  have HSM := Lib.hid (small_any (hS.below b1))
  have HLW : Hid (∀ (a : Addr) n k, c = .slice (some a) n k → 0 < n → a.block < W1.heap.size) := Lib.hid (fun a n k h h0 => Nat.lt_of_lt_of_le (hlow a n k h h0) b1.size)
  obtain ⟨a, cap, rfl, -⟩ := hS
  have B1 : Hid (Below W1.heap.size W1 W1) := Lib.hid (Below.refl _ _)
  have BB := Lib.hid b1
  rw [hgc] at k1
  have HKC : Hid (∀ w, Below W1.heap.size W1 w → CaC w gc len (.slice a S.length cap) x n r) := Lib.hid (fun w hw => by have := hw.block gc hgl; unfold CaC; rw [this]; exact k1)
  have HBE : Hid (∀ w, Below W1.heap.size W1 w → Below W.heap.size W w) := Lib.hid (fun w hw => BB.out.trans (hw.mono BB.out.size))
  have hgd : Try.prog.eqGuardType Try.prog.depth 33 = false := by kernel_rfl
  obtain ⟨c0, c1, c2, c3, c4⟩ := k1.cells
  clear b1 hlow hgl k1
  cases hsm : smallF S with
  | false =>
    rw [hsm] at HSM
    go_enter Try.func8, Try.ntmps8
    go_wp2_with fail
    refine HSM.out.mono ?_; rintro e w ⟨rfl, h⟩; rw [h]; clear h w
    go_wp2_with fail
    go_ret
    exact ⟨rfl, BB.out⟩
  | true =>
    rw [hsm] at HSM
    have HSY := Lib.hid hsm
    have HNW := Lib.hid (snew_any W1 1048576 (by omega))
    rw [show ((1048576 : Nat) : Int) = 1048576 from rfl] at HNW
    clear hsm
    go_enter Try.func8, Try.ntmps8
    go_wp2_with fail
    refine HSM.out.mono ?_; rintro e w ⟨rfl, h⟩; rw [h]; clear h w
    go_wp2_with fail
    refine HNW.out.mono ?_
    rintro e w2 ⟨B, rfl, s2, b2⟩
    have HMD := Lib.hid (madeL_any s2 (HS1.out.below b2) HSY.out b2.size HLW.out)
    obtain ⟨d0, d1, d2, d3, d4⟩ := (HKC.out w2 b2).cells
    have B2 := Lib.hid b2
    clear s2 b2 HNW HSM c0 c1 c2 c3 c4 hW1
    go_wp2_with fail
    clear d0 d1 d2 d3 d4
    refine HMD.out.mono ?_
    rintro e w3 ⟨E, L, v1, v2, rfl, hM, b3⟩
    have HM3 := Lib.hid hM
    have hb3 := B2.out.trans b3
    have B3 := Lib.hid hb3
    have HN3 : Hid (W1.heap.size ≤ w3.heap.size) := Lib.hid hb3.size
    have HMX := Lib.hid (And.intro hM.wf (And.intro hM.le (And.intro hM.mt (And.intro hM.len hM.tl))))
    clear hM hb3 b3 HMD B2
    have HAW := Lib.hid (awake_any w3)
    go_wp2_with fail
    refine HAW.out.mono ?_; rintro e w4 ⟨rfl, b⟩
    have B4 : Hid (Below W1.heap.size W1 w4) := Lib.hid (B3.out.trans (b.mono HN3.out))
    have HN4 : Hid (W1.heap.size ≤ w4.heap.size) := Lib.hid B4.out.size
    have HM4 := Lib.hid (HM3.out.below b)
    clear HM3 
    clear b HAW
    obtain ⟨d0, d1, d2, d3, d4⟩ := (HKC.out w4 B4.out).cells
    have HPL := Lib.hid (plength_any HM4.out.st HM4.out.wf.wf HM4.out.le HM4.out.chs HM4.out.mt.2.1 (Nat.le_trans HM4.out.len (by decide)) len)
    by_cases hl0 : (lngF E len L).2 = 0
    rotate_left
    · have he : errV (lngF E len L).2 = .iface 54 (.int .i64 (lngF E len L).2) := by unfold errV; rw [if_neg hl0]; rfl
      rw [he] at HPL
      generalize (lngF E len L).2 = ce at *
      generalize (lngF E len L).1 = nl at *
      clear he
      go_wp2_with fail
      clear d0 d1 d2 d3 d4
      refine HPL.out.mono ?_; rintro e w5 ⟨rfl, b⟩
      have B5 : Hid (Below W1.heap.size W1 w5) := Lib.hid (B4.out.trans (b.mono HN4.out))
      have HN5 : Hid (W1.heap.size ≤ w5.heap.size) := Lib.hid B5.out.size
      have HM5 := Lib.hid (HM4.out.below b)
      clear HM4 
      clear b HPL
      obtain ⟨d0, d1, d2, d3, d4⟩ := (HKC.out w5 B5.out).cells
      go_wp2_with fail
      go_ret
      exact ⟨rfl, HBE.out w5 B5.out⟩
    have HL0 := Lib.hid hl0
    rw [hl0, errV_0] at HPL
    obtain ⟨nl, hnl⟩ : ∃ n, (lngF E len L).1 = n := ⟨_, rfl⟩
    rw [hnl] at HPL
    have HNL := Lib.hid hnl
    go_wp2_with fail
    clear d0 d1 d2 d3 d4
    refine HPL.out.mono ?_; rintro e w5 ⟨rfl, b⟩
    have B5 : Hid (Below W1.heap.size W1 w5) := Lib.hid (B4.out.trans (b.mono HN4.out))
    have HN5 : Hid (W1.heap.size ≤ w5.heap.size) := Lib.hid B5.out.size
    have HM5 := Lib.hid (HM4.out.below b)
    clear HM4 
    clear b HPL
    obtain ⟨d0, d1, d2, d3, d4⟩ := (HKC.out w5 B5.out).cells
    by_cases hx1 : x < 0
    · clear hl0 hnl
      go_wp2_with fail
      go_ret
      exact ⟨rfl, HBE.out w5 B5.out⟩
    by_cases hx2 : x ≥ len
    · clear hl0 hnl
      go_wp2_with fail
      go_ret
      exact ⟨rfl, HBE.out w5 B5.out⟩
    obtain ⟨o1, o2, o3, o4, o5⟩ := lngF_ok hl0
    obtain ⟨ra, rb, hr1⟩ : ∃ a b, ancF (mvsF E 0 L) (lngF E len L).1 len x true = (a, b) := ⟨_, _, rfl⟩
    have HRa := Lib.hid hr1
    have HPa : Hid (prepF E len L [(x, true)] = 0) := Lib.hid (by rw [prep_one, if_pos ⟨o1, o2, by omega, by omega⟩]; exact hl0)
    have HBK : Hid (rb = true → bckF E len L ra = 0 ∧ letB (mvsF E 0 L) ra = (x, true)) := Lib.hid (fun h => by
      subst h
      exact ret_plain hl0 ⟨by omega, by omega⟩ hr1)
    clear hl0 hnl o1 o2 o3 o4 o5 hr1
    clear d0 d1 d2 d3 d4
    obtain ⟨d0, d1, d2, d3, d4⟩ := (HKC.out w5 B5.out).cells
    have HMP := Lib.hid (map_any HM5.out.st HM5.out.wf.wf HM5.out.le HM5.out.chs HM5.out.mt.2.1 (Nat.le_trans HM5.out.len (by decide)) len x true)
    unfold MapP at HMP
    rw [HPa.out] at HMP
    go_wp2_with fail
    clear d0 d1 d2 d3 d4
    refine HMP.out.mono ?_
    rintro e w4 ⟨⟨-, rfl⟩ | ⟨h, -⟩, b4⟩
    rotate_left
    · exact absurd rfl h
    rw [HRa.out]
    dsimp only
    clear HMP
    obtain ⟨wz, w6, hz, hs1, ka, ba, ⟨p0, p1⟩, f0, f1⟩ := newAn w4 ra true
    obtain ⟨gKA, hg⟩ : ∃ g, w4.heap.size = g := ⟨_, rfl⟩
    rw [hg] at hs1 p0 p1 f0 f1 ka
    have bb := Below.after b4 ba
    have B6 : Hid (Below W1.heap.size W1 w6) := Lib.hid (B5.out.trans (bb.mono HN5.out))
    have HN6 : Hid (W1.heap.size ≤ w6.heap.size) := Lib.hid B6.out.size
    have HM6 := Lib.hid (HM5.out.below bb)
    clear HM5 
    have KA_6 := Lib.hid ka
    clear ka ba bb b4
    obtain ⟨kay0, kay1, -, -⟩ := KA_6.out.cells
    obtain ⟨d0, d1, d2, d3, d4⟩ := (HKC.out w6 B6.out).cells
    cases rb with
    | false =>
      go_wp2_with fail
      go_ret
      exact ⟨rfl, HBE.out w6 B6.out⟩
    | true =>
      obtain ⟨hb1, hb2⟩ := HBK.out rfl
      have HMP := Lib.hid (back_any HM6.out.st HM6.out.wf.wf HM6.out.le HM6.out.chs HM6.out.mt.2.1 (Nat.le_trans HM6.out.len (by decide)) len ra)
      unfold BackP at HMP
      rw [hb1, hb2] at HMP
      clear hb1 hb2 HBK
      go_wp2_with fail
      clear d0 d1 d2 d3 d4
      refine HMP.out.mono ?_
      rintro e w7 ⟨⟨-, rfl⟩ | ⟨h, -⟩, b7⟩
      rotate_left
      · exact absurd rfl h
      dsimp only
      clear HMP
      have B7 : Hid (Below W1.heap.size W1 w7) := Lib.hid (B6.out.trans (b7.mono HN6.out))
      have HN7 : Hid (W1.heap.size ≤ w7.heap.size) := Lib.hid B7.out.size
      have HM7 := Lib.hid (HM6.out.below b7)
      have KA_7 := Lib.hid (show AnC w7 gKA ra true from below_block b7 KA_6.out)
      clear HM6 KA_6
      obtain ⟨d0, d1, d2, d3, d4⟩ := (HKC.out w7 B7.out).cells
      clear b7
      go_wp2_with fail
      go_ret
      exact ⟨by simp, HBE.out w7 B7.out⟩
end M
end Go.Proofs.Ytplccefjljdjnaa
