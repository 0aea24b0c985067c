/- AnchorBacks: the walk. -/
import Derived.Test.YtplccefjljdjnaaMapsC
namespace Go.Proofs.Ytplccefjljdjnaa
open Go.RowKit Go.Lib
namespace M
attribute [local go_sem] Oper.semAt_some
set_option maxRecDepth 100000 in
set_option maxHeartbeats 8000000 in
theorem backs_any {W : World} {c : Value} {S : List Spc} (hS : RowSp W c S) (hlow : LowS W c) (len x n : Int) (r : Bool) :
    Calls Try.prog 7 #[.agg #[.int .i64 len, c, .int .i64 x, .int .i64 n, .bool r]] W fun e w' => e = .returned (.bool true) ∧ Below W.heap.size W w' := by
  obtain ⟨W1, hW1⟩ : ∃ w, W.alloc (.cells #[.int .i64 len, c, .int .i64 x, .int .i64 n, .bool r] 24) = w := ⟨_, rfl⟩
  have b1 : Below W.heap.size W W1 := by rw [← hW1]; exact (Below.refl _ W).alloc (Nat.le_refl _) _
  have k1 : CaC W1 W.heap.size len c x n r := by rw [← hW1]; exact heap_new' W _
  obtain ⟨gc, hgc⟩ : ∃ g, W.heap.size = g := ⟨_, rfl⟩
  have hgl : gc < W1.heap.size := by rw [← hgc, ← hW1]; simp
  have HS1 := Lib.hid (hS.below b1)
  have HSM := Lib.hid (small_any (hS.below b1))
  have HLW : Hid (∀ (a : Addr) n k, c = .slice (some a) n k → 0 < n → a.block < W1.heap.size) := Lib.hid (fun a n k h h0 => Nat.lt_of_lt_of_le (hlow a n k h h0) b1.size)
  obtain ⟨a, cap, rfl, -⟩ := hS
  have B1 : Hid (Below W1.heap.size W1 W1) := Lib.hid (Below.refl _ _)
  have BB := Lib.hid b1
  rw [hgc] at k1
  have HKC : Hid (∀ w, Below W1.heap.size W1 w → CaC w gc len (.slice a S.length cap) x n r) := Lib.hid (fun w hw => by have := hw.block gc hgl; unfold CaC; rw [this]; exact k1)
  have HBE : Hid (∀ w, Below W1.heap.size W1 w → Below W.heap.size W w) := Lib.hid (fun w hw => BB.out.trans (hw.mono BB.out.size))
  have hgd : Try.prog.eqGuardType Try.prog.depth 33 = false := by kernel_rfl
  obtain ⟨c0, c1, c2, c3, c4⟩ := k1.cells
  clear b1 hlow hgl k1
  cases hsm : smallF S with
  | false =>
    rw [hsm] at HSM
    go_enter Try.func7, Try.ntmps7
    go_wp2_with fail
    refine HSM.out.mono ?_; rintro e w ⟨rfl, h⟩; rw [h]; clear h w
    go_wp2_with fail
    go_ret
    exact ⟨rfl, BB.out⟩
  | true =>
    rw [hsm] at HSM
    have HSY := Lib.hid hsm
    have HNW := Lib.hid (snew_any W1 1048576 (by omega))
    rw [show ((1048576 : Nat) : Int) = 1048576 from rfl] at HNW
    clear hsm
    go_enter Try.func7, Try.ntmps7
    go_wp2_with fail
    refine HSM.out.mono ?_; rintro e w ⟨rfl, h⟩; rw [h]; clear h w
    go_wp2_with fail
    refine HNW.out.mono ?_
    rintro e w2 ⟨B, rfl, s2, b2⟩
    have HMD := Lib.hid (madeL_any s2 (HS1.out.below b2) HSY.out b2.size HLW.out)
    obtain ⟨d0, d1, d2, d3, d4⟩ := (HKC.out w2 b2).cells
    have B2 := Lib.hid b2
    clear s2 b2 HNW HSM c0 c1 c2 c3 c4 hW1
    go_wp2_with fail
    clear d0 d1 d2 d3 d4
    refine HMD.out.mono ?_
    rintro e w3 ⟨E, L, v1, v2, rfl, hM, b3⟩
    have HM3 := Lib.hid hM
    have hb3 := B2.out.trans b3
    have B3 := Lib.hid hb3
    have HN3 : Hid (W1.heap.size ≤ w3.heap.size) := Lib.hid hb3.size
    have HMX := Lib.hid (And.intro hM.wf (And.intro hM.le (And.intro hM.mt (And.intro hM.len hM.tl))))
    clear hM hb3 b3 HMD B2
    obtain ⟨d0, d1, d2, d3, d4⟩ := (HKC.out w3 B3.out).cells
    have HMP := Lib.hid (back_any HM3.out.st HM3.out.wf.wf HM3.out.le HM3.out.chs HM3.out.mt.2.1 (Nat.le_trans HM3.out.len (by decide)) len x)
    unfold BackP at HMP
    have HCD : Hid (bckF E len L x = if (lngF E len L).2 ≠ 0 then (lngF E len L).2 else if 0 ≤ x ∧ x < (lngF E len L).1 then 0 else 1) := Lib.hid rfl
    generalize hpc : bckF E len L x = cd at *
    by_cases hcd : cd = 0
    rotate_left
    · go_wp2_with fail
      clear d0 d1 d2 d3 d4
      refine HMP.out.mono ?_
      rintro e w4 ⟨⟨h, -⟩ | ⟨-, rfl⟩, b4⟩
      · exact absurd h hcd
      unfold err
      have B4 : Hid (Below W1.heap.size W1 w4) := Lib.hid (B3.out.trans (b4.mono HN3.out))
      have HN4 : Hid (W1.heap.size ≤ w4.heap.size) := Lib.hid B4.out.size
      have HM4 := Lib.hid (HM3.out.below b4)
      clear HM3 
      obtain ⟨d0, d1, d2, d3, d4⟩ := (HKC.out w4 B4.out).cells
      have HLN := Lib.hid (refLength_any HM4.out.rcs HM4.out.mt.2.2 (Nat.le_trans HM4.out.len (by decide)) HM4.out.tl len)
      clear HMP b4
      go_wp2_with fail
      clear d0 d1 d2 d3 d4
      refine HLN.out.mono ?_; rintro e w5 ⟨rfl, b5⟩
      have B5 : Hid (Below W1.heap.size W1 w5) := Lib.hid (B4.out.trans (b5.mono HN4.out))
      have HN5 : Hid (W1.heap.size ≤ w5.heap.size) := Lib.hid B5.out.size
      have HM5 := Lib.hid (HM4.out.below b5)
      clear HM4 
      obtain ⟨d0, d1, d2, d3, d4⟩ := (HKC.out w5 B5.out).cells
      have hcn : (cd != 0) = true := by simpa using hcd
      have HEV : Hid (errV cd = .iface 54 (.int .i64 cd)) := Lib.hid (by unfold errV; rw [if_neg hcd]; rfl)
      clear b5 HLN
      obtain ⟨nl, hnl⟩ : ∃ n, (lngF E len L).1 = n := ⟨_, rfl⟩
      obtain ⟨ce, hce⟩ : ∃ n, (lngF E len L).2 = n := ⟨_, rfl⟩
      rw [hnl, hce] at HCD
      rw [hnl, hce]
      clear hnl hce hpc
      by_cases hc0 : ce = 0
      · subst hc0
        have hc1 := HCD.out
        rw [if_neg (by simp)] at hc1
        by_cases hx1 : x < 0
        · rw [if_neg (by omega)] at hc1
          subst hc1
          clear hcd
          have HAW := Lib.hid (awake_any w5)
          go_wp2_with fail
          refine HAW.out.mono ?_; rintro e w6 ⟨rfl, b⟩
          have B6 : Hid (Below W1.heap.size W1 w6) := Lib.hid (B5.out.trans (b.mono HN5.out))
          have HN6 : Hid (W1.heap.size ≤ w6.heap.size) := Lib.hid B6.out.size
          have HM6 := Lib.hid (HM5.out.below b)
          clear HM5 
          clear b HAW
          have HNM := Lib.hid (num_any w6 1)
          rw [HEV.out] at HNM
          go_wp2_with fail
          refine HNM.out.mono ?_; rintro e w ⟨rfl, h⟩; rw [h]; clear h w
          go_wp2_with fail
          go_ret
          exact ⟨rfl, HBE.out w6 B6.out⟩
        · have hx2 : x ≥ nl := by
            by_cases h : 0 ≤ x ∧ x < nl
            · rw [if_pos h] at hc1; exact absurd hc1 hcd
            · omega
          rw [if_neg (by omega)] at hc1
          subst hc1
          clear hcd
          have HAW := Lib.hid (awake_any w5)
          go_wp2_with fail
          refine HAW.out.mono ?_; rintro e w6 ⟨rfl, b⟩
          have B6 : Hid (Below W1.heap.size W1 w6) := Lib.hid (B5.out.trans (b.mono HN5.out))
          have HN6 : Hid (W1.heap.size ≤ w6.heap.size) := Lib.hid B6.out.size
          have HM6 := Lib.hid (HM5.out.below b)
          clear HM5 
          clear b HAW
          have HNM := Lib.hid (num_any w6 1)
          rw [HEV.out] at HNM
          go_wp2_with fail
          refine HNM.out.mono ?_; rintro e w ⟨rfl, h⟩; rw [h]; clear h w
          go_wp2_with fail
          go_ret
          exact ⟨rfl, HBE.out w6 B6.out⟩
      · have hc1 := HCD.out
        rw [if_pos hc0] at hc1
        subst hc1
        have hcz : (cd == 0) = false := by simpa using hcd
        clear hcd hc0
        have HAW := Lib.hid (awake_any w5)
        go_wp2_with fail
        refine HAW.out.mono ?_; rintro e w6 ⟨rfl, b⟩
        have B6 : Hid (Below W1.heap.size W1 w6) := Lib.hid (B5.out.trans (b.mono HN5.out))
        have HN6 : Hid (W1.heap.size ≤ w6.heap.size) := Lib.hid B6.out.size
        have HM6 := Lib.hid (HM5.out.below b)
        clear HM5 
        clear b HAW
        have HNM := Lib.hid (num_any w6 cd)
        rw [HEV.out] at HNM
        go_wp2_with fail
        refine HNM.out.mono ?_; rintro e w ⟨rfl, h⟩; rw [h]; clear h w
        go_wp2_with fail
        go_ret
        exact ⟨rfl, HBE.out w6 B6.out⟩
    · subst hcd
      have hl0 : (lngF E len L).2 = 0 := by
        have h := HCD.out
        by_cases hh : (lngF E len L).2 = 0
        · exact hh
        · rw [if_pos hh] at h; exact absurd h.symm hh
      have hin : 0 ≤ x ∧ x < (lngF E len L).1 := by
        have h := HCD.out
        rw [if_neg (by simpa using hl0)] at h
        by_cases hh : 0 ≤ x ∧ x < (lngF E len L).1
        · exact hh
        · rw [if_neg hh] at h; cases h
      obtain ⟨o1, o2, o3, o4, o5⟩ := lngF_ok hl0
      have HXB : Hid (0 ≤ x ∧ x ≤ 1152921504606846976) := Lib.hid ⟨hin.1, by omega⟩
      obtain ⟨nl, hnl⟩ : ∃ n, (lngF E len L).1 = n := ⟨_, rfl⟩
      rw [hnl] at hin
      obtain ⟨hx1, hx2⟩ := hin
      have hx3 : ¬ x < 0 := by omega
      have hx4 : ¬ x ≥ nl := by omega
      obtain ⟨ra, rb, hr1⟩ : ∃ a b, letB (mvsF E 0 L) x = (a, b) := ⟨_, _, rfl⟩
      have hr2 : backR E x 0 L = (ra, rb) := by rw [← letB_eq o3]; exact hr1
      have HL0 := Lib.hid hl0; have HNL := Lib.hid hnl; have HR1 := Lib.hid hr1; have HR2 := Lib.hid hr2
      clear hl0 hnl hr1 hr2 o1 o2 o3 o4 o5
      go_wp2_with fail
      clear d0 d1 d2 d3 d4
      refine HMP.out.mono ?_
      rintro e w4 ⟨⟨-, rfl⟩ | ⟨h, -⟩, b4⟩
      rotate_left
      · exact absurd rfl h
      rw [HR1.out]
      dsimp only
      have B4 : Hid (Below W1.heap.size W1 w4) := Lib.hid (B3.out.trans (b4.mono HN3.out))
      have HN4 : Hid (W1.heap.size ≤ w4.heap.size) := Lib.hid B4.out.size
      have HM4 := Lib.hid (HM3.out.below b4)
      clear HM3 
      obtain ⟨d0, d1, d2, d3, d4⟩ := (HKC.out w4 B4.out).cells
      have HLN := Lib.hid (refLength_any HM4.out.rcs HM4.out.mt.2.2 (Nat.le_trans HM4.out.len (by decide)) HM4.out.tl len)
      rw [HL0.out, HNL.out] at HLN
      clear HMP b4
      go_wp2_with fail
      clear d0 d1 d2 d3 d4
      refine HLN.out.mono ?_; rintro e w5 ⟨rfl, b5⟩
      have B5 : Hid (Below W1.heap.size W1 w5) := Lib.hid (B4.out.trans (b5.mono HN4.out))
      have HN5 : Hid (W1.heap.size ≤ w5.heap.size) := Lib.hid B5.out.size
      have HM5 := Lib.hid (HM4.out.below b5)
      clear HM4 
      obtain ⟨d0, d1, d2, d3, d4⟩ := (HKC.out w5 B5.out).cells
      clear HLN b5
      have HAW := Lib.hid (awake_any w5)
      go_wp2_with fail
      refine HAW.out.mono ?_; rintro e w6 ⟨rfl, b⟩
      have B6 : Hid (Below W1.heap.size W1 w6) := Lib.hid (B5.out.trans (b.mono HN5.out))
      have HN6 : Hid (W1.heap.size ≤ w6.heap.size) := Lib.hid B6.out.size
      have HM6 := Lib.hid (HM5.out.below b)
      clear HM5 
      clear b HAW
      try clear d0 d1 d2 d3 d4
      obtain ⟨d0, d1, d2, d3, d4⟩ := (HKC.out w6 B6.out).cells
      have HNM := Lib.hid (num_nil w6)
      go_wp2_with fail
      refine HNM.out.mono ?_; rintro e w ⟨rfl, h⟩; rw [h]; clear h w
      have HRB := Lib.hid (refBack_any HM6.out.rcs (Nat.le_trans HM6.out.len (by decide)) HXB.out HL0.out)
      rw [HR2.out] at HRB
      go_wp2_with fail
      clear d0 d1 d2 d3 d4
      refine HRB.out.mono ?_; rintro e w7 ⟨rfl, b7⟩
      have B7 : Hid (Below W1.heap.size W1 w7) := Lib.hid (B6.out.trans (b7.mono HN6.out))
      have HN7 : Hid (W1.heap.size ≤ w7.heap.size) := Lib.hid B7.out.size
      have HM7 := Lib.hid (HM6.out.below b7)
      clear HM6 
      clear HRB b7
      go_wp2_with fail
      go_ret
      exact ⟨by simp, HBE.out w7 B7.out⟩
end M
end Go.Proofs.Ytplccefjljdjnaa
