/- AnchorInserted: the walk. -/
import Derived.Test.YtplccefjljdjnaaMapsC
import Derived.Test.YtplccefjljdjnaaFreshP
namespace Go.Proofs.Ytplccefjljdjnaa
open Go.RowKit Go.Lib
namespace M
attribute [local go_sem] Oper.semAt_some
theorem frs_le (f : Int → Bool) (a : Int) : ∀ k, frs f a k ≤ k
  | 0 => Nat.le_refl _
  | k + 1 => by
    show frs f a k + _ ≤ k + 1
    have := frs_le f a k
    split <;> omega
theorem bck_ok {E : List En} {len x : Int} {L : List Chg} {N : Nat} (h : (lngF E len L).2 = 0) (hN : (lngF E len L).1 = N) (h0 : 0 ≤ x) (hx : x < N) : bckF E len L x = 0 := by
  unfold bckF
  rw [if_neg (by simpa using h), if_pos ⟨h0, by rw [hN]; exact hx⟩]
theorem back_pos {E : List En} {len y : Int} : ∀ (L : List Chg) (last s : Int), formF len last L = true → s ≤ y → (backR E y s L).2 = true → 0 ≤ (backR E y s L).1
  | [], last, s, _, h1, _ => by show 0 ≤ y - s; omega
  | c :: L, last, s, h, h1, hk => by
    obtain ⟨a1, a2, a3, a4, a5, a6⟩ := chg_form h
    rw [backR_cons] at hk ⊢
    by_cases g1 : y < c.pos + s
    · rw [if_pos g1]; dsimp only; omega
    · rw [if_neg g1] at hk ⊢
      by_cases g2 : y < c.pos + s + (txt E c.id).length
      · rw [if_pos g2] at hk; cases hk
      · rw [if_neg g2] at hk ⊢
        have := backR_lo (E := E) (len := len) (y := y) L (c.pos + c.n) _ a5 (by omega) hk
        omega
set_option maxRecDepth 100000 in
set_option maxHeartbeats 8000000 in
theorem inserted_any {W : World} {c : Value} {S : List Spc} (hS : RowSp W c S) (hlow : LowS W c) (len x n : Int) (r : Bool) :
    Calls Try.prog 9 #[.agg #[.int .i64 len, c, .int .i64 x, .int .i64 n, .bool r]] W fun e w' => e = .returned (.bool true) ∧ Below W.heap.size W w' := by
  obtain ⟨W1, hW1⟩ : ∃ w, W.alloc (.cells #[.int .i64 len, c, .int .i64 x, .int .i64 n, .bool r] 24) = w := ⟨_, rfl⟩
  have b1 : Below W.heap.size W W1 := by rw [← hW1]; exact (Below.refl _ W).alloc (Nat.le_refl _) _
  have k1 : CaC W1 W.heap.size len c x n r := by rw [← hW1]; exact heap_new' W _
  obtain ⟨gc, hgc⟩ : ∃ g, W.heap.size = g := ⟨_, rfl⟩
  have hgl : gc < W1.heap.size := by rw [← hgc, ← hW1]; simp
  have HS1 := Lib.hid (hS.below b1)
  have HSM := Lib.hid (small_any (hS.below b1))
  have HLW : Hid (∀ (a : Addr) n k, c = .slice (some a) n k → 0 < n → a.block < W1.heap.size) := Lib.hid (fun a n k h h0 => Nat.lt_of_lt_of_le (hlow a n k h h0) b1.size)
  obtain ⟨a, cap, rfl, -⟩ := hS
  have B1 : Hid (Below W1.heap.size W1 W1) := Lib.hid (Below.refl _ _)
  have BB := Lib.hid b1
  rw [hgc] at k1
  have HKC : Hid (∀ w, Below W1.heap.size W1 w → CaC w gc len (.slice a S.length cap) x n r) := Lib.hid (fun w hw => by have := hw.block gc hgl; unfold CaC; rw [this]; exact k1)
  have HBE : Hid (∀ w, Below W1.heap.size W1 w → Below W.heap.size W w) := Lib.hid (fun w hw => BB.out.trans (hw.mono BB.out.size))
  have hgd : Try.prog.eqGuardType Try.prog.depth 33 = false := by kernel_rfl
  obtain ⟨c0, c1, c2, c3, c4⟩ := k1.cells
  clear b1 hlow hgl k1
  cases hsm : smallF S with
  | false =>
    rw [hsm] at HSM
    go_enter Try.func9, Try.ntmps9
    go_wp2_with fail
    refine HSM.out.mono ?_; rintro e w ⟨rfl, h⟩; rw [h]; clear h w
    go_wp2_with fail
    go_ret
    exact ⟨rfl, BB.out⟩
  | true =>
    rw [hsm] at HSM
    have HSY := Lib.hid hsm
    have HNW := Lib.hid (snew_any W1 1048576 (by omega))
    rw [show ((1048576 : Nat) : Int) = 1048576 from rfl] at HNW
    clear hsm
    by_cases hlen : len > 200
    · go_enter Try.func9, Try.ntmps9
      go_wp2_with fail
      refine HSM.out.mono ?_; rintro e w ⟨rfl, h⟩; rw [h]; clear h w
      go_wp2_with fail
      go_ret
      exact ⟨rfl, BB.out⟩
    go_enter Try.func9, Try.ntmps9
    go_wp2_with fail
    refine HSM.out.mono ?_; rintro e w ⟨rfl, h⟩; rw [h]; clear h w
    go_wp2_with fail
    refine HNW.out.mono ?_
    rintro e w2 ⟨B, rfl, s2, b2⟩
    have HMD := Lib.hid (madeL_any s2 (HS1.out.below b2) HSY.out b2.size HLW.out)
    obtain ⟨d0, d1, d2, d3, d4⟩ := (HKC.out w2 b2).cells
    have B2 := Lib.hid b2
    clear s2 b2 HNW HSM c0 c1 c2 c3 c4 hW1
    go_wp2_with fail
    clear d0 d1 d2 d3 d4
    refine HMD.out.mono ?_
    rintro e w3 ⟨E, L, v1, v2, rfl, hM, b3⟩
    have HM3 := Lib.hid hM
    have hb3 := B2.out.trans b3
    have B3 := Lib.hid hb3
    have HN3 : Hid (W1.heap.size ≤ w3.heap.size) := Lib.hid hb3.size
    have HMX := Lib.hid (And.intro hM.wf (And.intro hM.le (And.intro hM.mt (And.intro hM.len hM.tl))))
    clear hM hb3 b3 HMD B2
    have HAW := Lib.hid (awake_any w3)
    go_wp2_with fail
    refine HAW.out.mono ?_; rintro e w4 ⟨rfl, b⟩
    have B4 : Hid (Below W1.heap.size W1 w4) := Lib.hid (B3.out.trans (b.mono HN3.out))
    have HN4 : Hid (W1.heap.size ≤ w4.heap.size) := Lib.hid B4.out.size
    have HM4 := Lib.hid (HM3.out.below b)
    clear HM3 
    clear b HAW
    obtain ⟨d0, d1, d2, d3, d4⟩ := (HKC.out w4 B4.out).cells
    have HPL := Lib.hid (plength_any HM4.out.st HM4.out.wf.wf HM4.out.le HM4.out.chs HM4.out.mt.2.1 (Nat.le_trans HM4.out.len (by decide)) len)
    by_cases hl0 : (lngF E len L).2 = 0
    rotate_left
    · have he : errV (lngF E len L).2 = .iface 54 (.int .i64 (lngF E len L).2) := by unfold errV; rw [if_neg hl0]; rfl
      rw [he] at HPL
      generalize (lngF E len L).2 = ce at *
      generalize (lngF E len L).1 = nl at *
      clear he hlen
      go_wp2_with fail
      clear d0 d1 d2 d3 d4
      refine HPL.out.mono ?_; rintro e w5 ⟨rfl, b⟩
      have B5 : Hid (Below W1.heap.size W1 w5) := Lib.hid (B4.out.trans (b.mono HN4.out))
      have HN5 : Hid (W1.heap.size ≤ w5.heap.size) := Lib.hid B5.out.size
      have HM5 := Lib.hid (HM4.out.below b)
      clear HM4 
      clear b HPL
      obtain ⟨d0, d1, d2, d3, d4⟩ := (HKC.out w5 B5.out).cells
      have HSZ := Lib.hid (psizeAll_any HM5.out.st HM5.out.wf.wf HM5.out.le HM5.out.chs HM5.out.mt.2.1 (Nat.le_trans HM5.out.len (by decide)))
      generalize szF E L = sz at *
      obtain ⟨z1, z2, z3⟩ := sz
      dsimp only at HSZ
      generalize errV z3 = ev at *
      go_wp2_with fail
      refine HSZ.out.mono ?_; rintro e w6 ⟨rfl, b⟩
      clear d0 d1 d2 d3 d4
      have B6 : Hid (Below W1.heap.size W1 w6) := Lib.hid (B5.out.trans (b.mono HN5.out))
      have HN6 : Hid (W1.heap.size ≤ w6.heap.size) := Lib.hid B6.out.size
      have HM6 := Lib.hid (HM5.out.below b)
      clear HM5 
      clear b HSZ
      go_wp2_with fail
      go_ret
      exact ⟨rfl, HBE.out w6 B6.out⟩
    have HL0 := Lib.hid hl0
    rw [hl0, errV_0] at HPL
    obtain ⟨o1, o2, o3, o4, o5⟩ := lngF_ok hl0
    have hd := del_le o1 o3
    obtain ⟨N, hN⟩ : ∃ N : Nat, (lngF E len L).1 = N := ⟨(lngF E len L).1.toNat, by omega⟩
    rw [hN] at HPL o5
    have HFA := Lib.hid (frs_all hl0 hN)
    have his := ins_small L (mt_tl HMX.out.2.2.1 HSY.out)
    have hNb : N ≤ 680 := by have := HMX.out.2.2.2.1; omega
    have HO5 := Lib.hid o5; have HO3 := Lib.hid o3; have HNN := Lib.hid hN; have HLEN := Lib.hid o1
    obtain ⟨dl, hdl⟩ : ∃ d, delF L = d := ⟨_, rfl⟩
    obtain ⟨ni, hni⟩ : ∃ d, insF E L = d := ⟨_, rfl⟩
    have hsz : szF E L = (dl, (ni : Int), 0) := by rw [szF_ok hl0, hdl, hni]
    rw [hdl, hni] at o5
    rw [hni] at HFA
    rw [hdl] at hd
    have HSZF := Lib.hid hsz
    have HBM : Hid (∀ i j : Int, i < j → (backR E i 0 L).2 = true → (backR E j 0 L).2 = true → (backR E i 0 L).1 < (backR E j 0 L).1) := Lib.hid (fun i j h => backR_mono h L (-1) 0 o3)
    have HBL : Hid (∀ i : Int, 0 ≤ i → (backR E i 0 L).2 = true → -1 ≤ (backR E i 0 L).1) := Lib.hid (fun i h hk => backR_lo L (-1) 0 o3 (by omega) hk)
    have HBH : Hid (∀ i : Int, i < N → (backR E i 0 L).2 = true → (backR E i 0 L).1 < len) := Lib.hid (fun i h hk => backR_hi L (-1) 0 o3 (by have := moreF_eq E L 0; rw [hdl, hni] at this; omega) hk)
    have hwl : IntKind.i64.wrap (len - dl) = len - dl := by rw [IntKind.wrap_i64]; omega
    have HNI : Hid (N - ni = len - dl ∧ ni ≤ 480) := Lib.hid ⟨by omega, by have := HMX.out.2.2.2.1; omega⟩
    clear hl0 o1 o2 o3 o4 o5 hd hN his hdl hni hsz
    go_wp2_with fail
    clear d0 d1 d2 d3 d4
    refine HPL.out.mono ?_; rintro e w5 ⟨rfl, b⟩
    have B5 : Hid (Below W1.heap.size W1 w5) := Lib.hid (B4.out.trans (b.mono HN4.out))
    have HN5 : Hid (W1.heap.size ≤ w5.heap.size) := Lib.hid B5.out.size
    have HM5 := Lib.hid (HM4.out.below b)
    clear HM4 
    clear b HPL
    obtain ⟨d0, d1, d2, d3, d4⟩ := (HKC.out w5 B5.out).cells
    have HSZ := Lib.hid (psizeAll_any HM5.out.st HM5.out.wf.wf HM5.out.le HM5.out.chs HM5.out.mt.2.1 (Nat.le_trans HM5.out.len (by decide)))
    rw [HSZF.out, errV_0] at HSZ
    dsimp only at HSZ
    go_wp2_with fail
    refine HSZ.out.mono ?_; rintro e w6 ⟨rfl, b⟩
    clear d0 d1 d2 d3 d4
    have B6 : Hid (Below W1.heap.size W1 w6) := Lib.hid (B5.out.trans (b.mono HN5.out))
    have HN6 : Hid (W1.heap.size ≤ w6.heap.size) := Lib.hid B6.out.size
    have HM6 := Lib.hid (HM5.out.below b)
    clear HM5 
    clear b HSZ
    go_wp2_with fail
    obtain ⟨f, hf⟩ : ∃ f : Int → Bool, (fun x => (backR E x 0 L).2) = f := ⟨_, rfl⟩
    have HFD : Hid (∀ x, f x = (backR E x 0 L).2) := Lib.hid (fun x => by rw [← hf])
    rw [hf] at HFA
    clear hf
    have HB0 : Hid (∀ i : Int, 0 ≤ i → (backR E i 0 L).2 = true → -1 < (backR E i 0 L).1) := Lib.hid (fun i h hk => by have := back_pos (E := E) (y := i) L (-1) 0 HO3.out h hk; omega)
    go_loopw [12, 13, 14] (fun lv fv iv wr => ∃ (i : Nat) (last : Int), iv = .int .i64 i ∧ lv = .int .i64 last ∧ fv = .int .i64 (frs f 0 i : Nat) ∧ i ≤ N ∧ (∀ j : Int, i ≤ j → j < N → (backR E j 0 L).2 = true → last < (backR E j 0 L).1) ∧ Mdn W1.heap.size B wr S E L v1 v2 w2.heap.size ∧ Below W1.heap.size W1 wr) (fun _ _ iv _ => N - (intOf iv).toNat)
    case atStart => exact ⟨0, -1, rfl, rfl, rfl, Nat.zero_le _, fun j h1 _ hk => HB0.out j (by omega) hk, HM6.out, B6.out⟩
    case round =>
      clear HM6 B6 HN6 HB0
      obtain ⟨i, last, rfl, rfl, rfl, hi, ho, hM, hB⟩ := hrel
      have HM6 := Lib.hid hM; have B6 := Lib.hid hB; have HO := Lib.hid ho; have HN6 : Hid (W1.heap.size ≤ wr.heap.size) := Lib.hid hB.size
      obtain ⟨d0, d1, d2, d3, d4⟩ := (HKC.out wr hB).cells
      obtain ⟨fr, hfr⟩ : ∃ n, frs f 0 i = n := ⟨_, rfl⟩
      have HFR := Lib.hid hfr
      rw [hfr]
      have hfb : fr ≤ i := by rw [← hfr]; exact frs_le f 0 i
      clear hM hB ho hfr
      by_cases hlt : i < N
      · have hlt2 : (i : Int) < (N : Int) := by omega
        have hlt3 : (i : Int) < 1000 := by omega
        have HBK := Lib.hid (back_any HM6.out.st HM6.out.wf.wf HM6.out.le HM6.out.chs HM6.out.mt.2.1 (Nat.le_trans HM6.out.len (by decide)) len i)
        unfold BackP at HBK
        rw [bck_ok HL0.out HNN.out (by omega) hlt2, letB_eq HO3.out] at HBK
        obtain ⟨bv, bk, hbk⟩ : ∃ a b, backR E i 0 L = (a, b) := ⟨_, _, rfl⟩
        rw [hbk] at HBK
        have HRB := Lib.hid hbk
        have HFS : Hid (frs f 0 (i + 1) = fr + if bk then 0 else 1) := Lib.hid (by
          show frs f 0 i + (if f (0 + (i : Int)) then 0 else 1) = _
          rw [HFR.out, HFD.out, Int.zero_add, hbk])
        clear hbk
        cases bk with
        | true =>
          have h1 := HO.out i (Int.le_refl _) hlt2 (by rw [HRB.out])
          have h2 := HBH.out i hlt2 (by rw [HRB.out])
          have h3 := HBM.out i
          rw [HRB.out] at h1 h2 h3
          dsimp only at h1 h2 h3
          have h4 : ¬ bv ≤ last := by omega
          have h5 : ¬ bv ≥ len := by omega
          have HO2 : Hid (∀ j : Int, ((i + 1 : Nat) : Int) ≤ j → j < N → (backR E j 0 L).2 = true → bv < (backR E j 0 L).1) := Lib.hid (fun j hj hn hk => h3 j (by omega) rfl hk)
          clear h1 h2 h3 hwl
          go_wp2_with fail
          clear d0 d1 d2 d3 d4
          refine HBK.out.mono ?_
          rintro e w7 ⟨⟨-, rfl⟩ | ⟨h, -⟩, b7⟩
          rotate_left
          · exact absurd rfl h
          dsimp only
          have B7 : Hid (Below W1.heap.size W1 w7) := Lib.hid (B6.out.trans (b7.mono HN6.out))
          have HM7 := Lib.hid (HM6.out.below b7)
          obtain ⟨d0, d1, d2, d3, d4⟩ := (HKC.out w7 B7.out).cells
          clear b7 HBK
          go_wp2_with fail
          clear d0 d1 d2 d3 d4 h4 h5
          go_roundw
          case rel => exact ⟨i + 1, bv, by go_num, rfl, by rw [HFS.out]; rfl, by omega, HO2.out, HM7.out, B7.out⟩
          case measure => first | (simp [intOf]; omega) | simp [intOf]
        | false =>
          have h0 := backR_zero (E := E) (y := i) L 0 (by rw [HRB.out])
          rw [HRB.out] at h0
          dsimp only at h0
          subst h0
          have hfw : IntKind.i64.wrap ((fr : Int) + 1) = (fr : Int) + 1 := by rw [IntKind.wrap_i64]; omega
          clear hwl
          go_wp2_with fail
          clear d0 d1 d2 d3 d4
          refine HBK.out.mono ?_
          rintro e w7 ⟨⟨-, rfl⟩ | ⟨h, -⟩, b7⟩
          rotate_left
          · exact absurd rfl h
          dsimp only
          have B7 : Hid (Below W1.heap.size W1 w7) := Lib.hid (B6.out.trans (b7.mono HN6.out))
          have HM7 := Lib.hid (HM6.out.below b7)
          obtain ⟨d0, d1, d2, d3, d4⟩ := (HKC.out w7 B7.out).cells
          clear b7 HBK
          go_wp2_with fail
          clear d0 d1 d2 d3 d4
          have HFW := Lib.hid hfw
          clear hfw
          go_roundw
          case rel => exact ⟨i + 1, last, by go_num, rfl, by rw [HFS.out]; first | rfl | simp | (simp; omega), by omega, fun j hj hn hk => HO.out j (by omega) hn hk, HM7.out, B7.out⟩
          case measure => first | (simp [intOf]; omega) | simp [intOf]
      · have hlt2 : ¬ (i : Int) < (N : Int) := by omega
        have hiN : i = N := by omega
        subst hiN
        have hfn : fr = ni := by rw [← HFR.out]; exact HFA.out
        subst hfn
        have hw2 : IntKind.i64.wrap ((i : Int) - (fr : Int)) = len - dl := by have := HNI.out; rw [IntKind.wrap_i64]; omega
        clear hlt hlen
        go_wp2_with fail
        go_ret
        exact ⟨by simp, by first | exact HBE.out wr B6.out | (rw [← hgc]; exact HBE.out wr B6.out)⟩
end M
end Go.Proofs.Ytplccefjljdjnaa
