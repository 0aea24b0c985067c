/- AnchorMaps: the walk. -/
import Derived.Test.YtplccefjljdjnaaAwk
import Derived.Test.YtplccefjljdjnaaRefO
set_option linter.unusedVariables false
set_option linter.unusedSimpArgs false
namespace Go.Proofs.Ytplccefjljdjnaa
open Go.RowKit Go.Lib
namespace M
attribute [local go_sem] Oper.semAt_some
def CaC (W : World) (g : Nat) (len : Int) (v : Value) (x n : Int) (r : Bool) : Prop := W.heap[g]? = some (.cells #[.int .i64 len, v, .int .i64 x, .int .i64 n, .bool r] 24 (0, 0))
theorem CaC.cells {W : World} {g : Nat} {len : Int} {v : Value} {x n : Int} {r : Bool} (h : CaC W g len v x n r) : W.cell? ⟨g, 0, none⟩ = some (.int .i64 len) ∧ W.cell? ⟨g, 1, none⟩ = some v ∧ W.cell? ⟨g, 2, none⟩ = some (.int .i64 x) ∧ W.cell? ⟨g, 3, none⟩ = some (.int .i64 n) ∧ W.cell? ⟨g, 4, none⟩ = some (.bool r) := by
  unfold CaC at h
  simp [World.cell?, h]
/-- A slice's letters lie below. -/
def LowS (W : World) (c : Value) : Prop := ∀ (a : Addr) n k, c = .slice (some a) n k → 0 < n → a.block < W.heap.size
theorem prep_one (E : List En) (len : Int) (L : List Chg) (x : Int) (r : Bool) : prepF E len L [(x, r)] = if 0 ≤ len ∧ len ≤ 1152921504606846976 ∧ 0 ≤ x ∧ x ≤ len then (lngF E len L).2 else 1 := by
  unfold prepF maxL
  by_cases h : 0 ≤ len ∧ len ≤ 1152921504606846976
  · rw [if_neg (by omega)]
    by_cases h2 : 0 ≤ x ∧ x ≤ len
    · rw [if_pos (show _ ∧ _ from ⟨h.1, h.2, h2.1, h2.2⟩), if_pos]
      simp [h2.1, h2.2]
    · rw [if_neg (show ¬ (0 ≤ len ∧ len ≤ 1152921504606846976 ∧ 0 ≤ x ∧ x ≤ len) by omega), if_neg]
      simp; omega
  · rw [if_pos (by omega), if_neg (by omega)]
/-- What has been made for a law: a store, changes. -/
structure Mdn (n0 B : Nat) (w : World) (S : List Spc) (E : List En) (L : List Chg) (v1 v2 : Value) (b1 : Nat) : Prop where
  st : StAt n0 w B 1048576 E
  wf : WfD E
  le : E.length ≤ 1048576
  mt : Mt E L S
  chs : Chs b1 w v1 L
  rcs : Rcs b1 w v2 (L.map (rcOf E))
  len : L.length ≤ 12
  tl : ∀ c ∈ L, (txt E c.id).length ≤ 1000000
theorem Mdn.below {n0 B : Nat} {w w' : World} {S : List Spc} {E : List En} {L : List Chg} {v1 v2 : Value} {b1 : Nat} (h : Mdn n0 B w S E L v1 v2 b1) (hb : Below w.heap.size w w') : Mdn n0 B w' S E L v1 v2 b1 :=
  ⟨h.st.below hb, h.wf, h.le, h.mt, h.chs.below hb, h.rcs.below hb, h.len, h.tl⟩
theorem small_le {S : List Spc} (h : smallF S = true) : S.length ≤ 12 ∧ ∀ s ∈ S, s.text.size ≤ 40 := by
  unfold smallF at h
  simp only [Bool.and_eq_true, decide_eq_true_eq] at h
  refine ⟨h.2, fun s hs => ?_⟩
  have := List.all_eq_true.1 h.1 s hs
  simpa using this
theorem mt_tl {E : List En} {L : List Chg} {S : List Spc} (h : Mt E L S) (hs : smallF S = true) : ∀ c ∈ L, (txt E c.id).length ≤ 40 := by
  intro c hc
  have h1 := h.rcs
  have h2 : rcOf E c ∈ L.map (rcOf E) := List.mem_map_of_mem hc
  rw [h1] at h2
  obtain ⟨s, hs1, hs2⟩ := List.mem_map.1 h2
  have h3 := (small_le hs).2 s hs1
  have h4 := congrArg Rc.len hs2
  have h5 : s.text.size = (txt E c.id).length := h4
  omega
/-- made, for a law: out of an empty store. -/
theorem madeL_any {n0 B : Nat} {W : World} (hs : StAt n0 W B 1048576 []) {v : Value} {S : List Spc} (hS : RowSp W v S) (hsm : smallF S = true) (hn0 : n0 ≤ W.heap.size) (hout : ∀ (a : Addr) n c, v = .slice (some a) n c → 0 < n → a.block < n0) :
    Calls Try.prog 16 #[.pointer (some ⟨B, 0, none⟩), v] W fun e w' => ∃ E L v1 v2, e = .returned (.tuple #[v1, v2, .bool true]) ∧ Mdn n0 B w' S E L v1 v2 W.heap.size ∧ Below n0 W w' :=
  (made_any hs .nil hS hsm (by simp) (by simp) hn0 (fun a n c h h0 => .inl (hout a n c h h0))).mono fun e w' ⟨E, L, v1, v2, he, h1, h2, _, h4, h5, h6, h7, h8⟩ => by
    have hsl := (small_le hsm).1
    exact ⟨E, L, v1, v2, he, ⟨h1, h2, by simp at h4; omega, h5, h6, h7, by rw [h5.len]; exact hsl, fun c hc => Nat.le_trans (mt_tl h5 hsm c hc) (by decide)⟩, h8⟩
set_option maxRecDepth 100000 in
set_option maxHeartbeats 8000000 in
theorem maps_any {W : World} {c : Value} {S : List Spc} (hS : RowSp W c S) (hlow : LowS W c) (len x n : Int) (r : Bool) :
    Calls Try.prog 3 #[.agg #[.int .i64 len, c, .int .i64 x, .int .i64 n, .bool r]] W fun e w' => e = .returned (.bool true) ∧ Below W.heap.size W w' := by
  obtain ⟨W1, hW1⟩ : ∃ w, W.alloc (.cells #[.int .i64 len, c, .int .i64 x, .int .i64 n, .bool r] 24) = w := ⟨_, rfl⟩
  have b1 : Below W.heap.size W W1 := by rw [← hW1]; exact (Below.refl _ W).alloc (Nat.le_refl _) _
  have k1 : CaC W1 W.heap.size len c x n r := by rw [← hW1]; exact heap_new' W _
  obtain ⟨gc, hgc⟩ : ∃ g, W.heap.size = g := ⟨_, rfl⟩
  have hgl : gc < W1.heap.size := by rw [← hgc, ← hW1]; simp
  have HS1 := Lib.hid (hS.below b1)
  have HSM := Lib.hid (small_any (hS.below b1))
  have HLW : Hid (∀ (a : Addr) n k, c = .slice (some a) n k → 0 < n → a.block < W1.heap.size) := Lib.hid (fun a n k h h0 => Nat.lt_of_lt_of_le (hlow a n k h h0) b1.size)
  obtain ⟨a, cap, rfl, -⟩ := hS
  have B1 := Lib.hid b1
  rw [hgc] at k1
  have HKC : Hid (∀ w, Below W1.heap.size W1 w → CaC w gc len (.slice a S.length cap) x n r) := Lib.hid (fun w hw => by have := hw.block gc hgl; unfold CaC; rw [this]; exact k1)
  obtain ⟨c0, c1, c2, c3, c4⟩ := k1.cells
  clear b1 hlow hgl k1
  cases hsm : smallF S with
  | false =>
    rw [hsm] at HSM
    go_enter Try.func3, Try.ntmps3
    go_wp2_with fail
    refine HSM.out.mono ?_; rintro e w ⟨rfl, h⟩; rw [h]; clear h w
    go_wp2_with fail
    go_ret
    exact ⟨rfl, B1.out⟩
  | true =>
    rw [hsm] at HSM
    have HSY := Lib.hid hsm
    have HNW := Lib.hid (snew_any W1 1048576 (by omega))
    rw [show ((1048576 : Nat) : Int) = 1048576 from rfl] at HNW
    clear hsm
    go_enter Try.func3, Try.ntmps3
    go_wp2_with fail
    refine HSM.out.mono ?_; rintro e w ⟨rfl, h⟩; rw [h]; clear h w
    go_wp2_with fail
    refine HNW.out.mono ?_
    rintro e w2 ⟨B, rfl, s2, b2⟩
    have HMD := Lib.hid (madeL_any s2 (HS1.out.below b2) HSY.out b2.size HLW.out)
    obtain ⟨d0, d1, d2, d3, d4⟩ := (HKC.out w2 b2).cells
    have B2 := Lib.hid b2
    clear s2 b2 HNW HSM c0 c1 c2 c3 c4 hW1
    go_wp2_with fail
    clear d0 d1 d2 d3 d4
    refine HMD.out.mono ?_
    rintro e w3 ⟨E, L, v1, v2, rfl, hM, b3⟩
    have HM := Lib.hid hM
    have hb3 := B2.out.trans b3
    obtain ⟨d0, d1, d2, d3, d4⟩ := (HKC.out w3 hb3).cells
    have HMP := Lib.hid (map_any hM.st hM.wf.wf hM.le hM.chs hM.mt.2.1 (Nat.le_trans hM.len (by decide)) len x r)
    unfold MapP at HMP
    have B3 := Lib.hid hb3
    have HN3 : Hid (W1.heap.size ≤ w3.heap.size) := Lib.hid hb3.size
    have HPO := Lib.hid (prep_one E len L x r)
    generalize hpc : prepF E len L [(x, r)] = cd at *
    clear hM hb3 b3 HMD B2
    by_cases hcd : cd = 0
    rotate_left
    · go_wp2_with fail
      clear d0 d1 d2 d3 d4
      refine HMP.out.mono ?_
      rintro e w4 ⟨⟨h, -⟩ | ⟨-, rfl⟩, b4⟩
      · exact absurd h hcd
      unfold err
      obtain ⟨wz, w5, hz, hs1, ka, ba, ⟨p0, p1⟩, f0, f1⟩ := newAn w4 0 false
      obtain ⟨ga, hga⟩ : ∃ g, w4.heap.size = g := ⟨_, rfl⟩
      rw [hga] at hs1 p0 p1 f0 f1 ka
      have b5 := Below.after b4 ba
      have B5 : Hid (Below W1.heap.size W1 w5) := Lib.hid (B3.out.trans (b5.mono HN3.out))
      have HM5 := Lib.hid (HM.out.below b5)
      obtain ⟨d0, d1, d2, d3, d4⟩ := (HKC.out w5 B5.out).cells
      have KA := Lib.hid ka
      have HN5 : Hid (W1.heap.size ≤ w5.heap.size) := Lib.hid B5.out.size
      have HLN := Lib.hid (refLength_any HM5.out.rcs HM5.out.mt.2.2 (Nat.le_trans HM5.out.len (by decide)) HM5.out.tl len)
      clear ka ba b4 b5 HMP HM
      go_wp2_with fail
      clear hz hs1 p0 p1 f0 f1 d0 d1 d2 d3 d4 hga
      refine HLN.out.mono ?_
      rintro e w6 ⟨rfl, b6⟩
      have B6 : Hid (Below W1.heap.size W1 w6) := Lib.hid (B5.out.trans (b6.mono HN5.out))
      obtain ⟨d0, d1, d2, d3, d4⟩ := (HKC.out w6 B6.out).cells
      have HN6 : Hid (W1.heap.size ≤ w6.heap.size) := Lib.hid B6.out.size
      have KA6 := Lib.hid (show AnC w6 ga 0 false from below_block b6 KA.out)
      have HV := Lib.hid (valid01_any w6 len)
      have HAW := Lib.hid (awake_any w6)
      have hcn : (cd != 0) = true := by simpa using hcd
      have HEV : Hid (errV cd = .iface 54 (.int .i64 cd)) := Lib.hid (by unfold errV; rw [if_neg hcd]; rfl)
      have hcc : (cd != cd) = false := by simp
      have heq := an_eq 0 0 false false
      rw [decide_eq_true (show (0 : Int) = 0 ∧ false = false from ⟨rfl, rfl⟩)] at heq
      have hgd : Try.prog.eqGuardType Try.prog.depth 33 = false := by kernel_rfl
      have HEND : Hid (∀ w, Below w6.heap.size w6 w → AnC w ga 0 false ∧ Below W.heap.size W w) := Lib.hid (fun w hw => ⟨below_block hw KA6.out, B1.out.trans ((B6.out.trans (hw.mono HN6.out)).mono B1.out.size)⟩)
      clear b6 HLN KA HM5
      obtain ⟨nl, hnl⟩ : ∃ n, (lngF E len L).1 = n := ⟨_, rfl⟩
      obtain ⟨ce, hce⟩ : ∃ n, (lngF E len L).2 = n := ⟨_, rfl⟩
      rw [hce] at HPO
      rw [hnl, hce]
      clear hnl hce hpc
      by_cases hv : 0 ≤ len ∧ len ≤ 1152921504606846976
      · rw [decide_eq_true hv] at HV
        by_cases hx1 : x < 0
        · have hc1 := HPO.out
          rw [if_neg (by omega)] at hc1
          subst hc1
          clear hv hcd
          go_wp2_with fail
          clear d0 d1 d2 d3 d4
          refine HV.out.mono ?_; rintro e w ⟨rfl, h⟩; rw [h]; clear h w
          obtain ⟨d0, d1, d2, d3, d4⟩ := (HKC.out w6 B6.out).cells
          go_wp2_with fail
          clear d0 d1 d2 d3 d4
          refine HAW.out.mono ?_; rintro e w7 ⟨rfl, b7⟩
          have HNM := Lib.hid (num_any w7 1)
          rw [HEV.out] at HNM
          obtain ⟨hka, hbe⟩ := HEND.out w7 b7
          obtain ⟨y0, y1, -, -⟩ := hka.cells
          have HBE := Lib.hid hbe
          clear hka hbe b7
          go_wp2_with fail
          refine HNM.out.mono ?_; rintro e w ⟨rfl, h⟩; rw [h]; clear h w
          go_wp2_with fail
          go_ret
          exact ⟨rfl, HBE.out⟩
        · by_cases hx2 : x > len
          · have hc1 := HPO.out
            rw [if_neg (by omega)] at hc1
            subst hc1
            clear hv hcd
            go_wp2_with fail
            clear d0 d1 d2 d3 d4
            refine HV.out.mono ?_; rintro e w ⟨rfl, h⟩; rw [h]; clear h w
            obtain ⟨d0, d1, d2, d3, d4⟩ := (HKC.out w6 B6.out).cells
            go_wp2_with fail
            clear d0 d1 d2 d3 d4
            refine HAW.out.mono ?_; rintro e w7 ⟨rfl, b7⟩
            have HNM := Lib.hid (num_any w7 1)
            rw [HEV.out] at HNM
            obtain ⟨hka, hbe⟩ := HEND.out w7 b7
            obtain ⟨y0, y1, -, -⟩ := hka.cells
            have HBE := Lib.hid hbe
            clear hka hbe b7
            go_wp2_with fail
            refine HNM.out.mono ?_; rintro e w ⟨rfl, h⟩; rw [h]; clear h w
            go_wp2_with fail
            go_ret
            exact ⟨rfl, HBE.out⟩
          · have hc1 := HPO.out
            rw [if_pos (by omega)] at hc1
            subst hc1
            clear hv hcd
            go_wp2_with fail
            clear d0 d1 d2 d3 d4
            refine HV.out.mono ?_; rintro e w ⟨rfl, h⟩; rw [h]; clear h w
            obtain ⟨d0, d1, d2, d3, d4⟩ := (HKC.out w6 B6.out).cells
            go_wp2_with fail
            clear d0 d1 d2 d3 d4
            refine HAW.out.mono ?_; rintro e w7 ⟨rfl, b7⟩
            have HNM := Lib.hid (num_any w7 cd)
            rw [HEV.out] at HNM
            obtain ⟨hka, hbe⟩ := HEND.out w7 b7
            obtain ⟨y0, y1, -, -⟩ := hka.cells
            have HBE := Lib.hid hbe
            clear hka hbe b7
            go_wp2_with fail
            refine HNM.out.mono ?_; rintro e w ⟨rfl, h⟩; rw [h]; clear h w
            go_wp2_with fail
            go_ret
            exact ⟨rfl, HBE.out⟩
      · rw [decide_eq_false hv] at HV
        have hc1 := HPO.out
        rw [if_neg (by omega)] at hc1
        subst hc1
        clear hv hcd
        go_wp2_with fail
        clear d0 d1 d2 d3 d4
        refine HV.out.mono ?_; rintro e w ⟨rfl, h⟩; rw [h]; clear h w
        obtain ⟨d0, d1, d2, d3, d4⟩ := (HKC.out w6 B6.out).cells
        go_wp2_with fail
        clear d0 d1 d2 d3 d4
        refine HAW.out.mono ?_; rintro e w7 ⟨rfl, b7⟩
        have HNM := Lib.hid (num_any w7 1)
        rw [HEV.out] at HNM
        obtain ⟨hka, hbe⟩ := HEND.out w7 b7
        obtain ⟨y0, y1, -, -⟩ := hka.cells
        have HBE := Lib.hid hbe
        clear hka hbe b7
        go_wp2_with fail
        refine HNM.out.mono ?_; rintro e w ⟨rfl, h⟩; rw [h]; clear h w
        go_wp2_with fail
        go_ret
        exact ⟨rfl, HBE.out⟩
    · subst hcd
      have hin : 0 ≤ len ∧ len ≤ 1152921504606846976 ∧ 0 ≤ x ∧ x ≤ len := by
        have h := HPO.out
        by_cases g : 0 ≤ len ∧ len ≤ 1152921504606846976 ∧ 0 ≤ x ∧ x ≤ len
        · exact g
        · rw [if_neg g] at h; omega
      have hl0 : (lngF E len L).2 = 0 := by
        have h := HPO.out
        rw [if_pos hin] at h; exact h.symm
      have HL0 := Lib.hid hl0; have HIN := Lib.hid hin
      clear hl0 hin
      go_wp2_with fail
      clear d0 d1 d2 d3 d4
      refine HMP.out.mono ?_
      rintro e w4 ⟨⟨-, rfl⟩ | ⟨h, -⟩, b4⟩
      rotate_left
      · exact absurd rfl h
      obtain ⟨res, hres⟩ : ∃ q, ancF (mvsF E 0 L) (lngF E len L).1 len x r = q := ⟨_, rfl⟩
      have HRS := Lib.hid hres
      rw [hres]
      obtain ⟨ra, rb⟩ := res
      dsimp only
      obtain ⟨wz, w5, hz, hs1, ka, ba, ⟨p0, p1⟩, f0, f1⟩ := newAn w4 ra r
      obtain ⟨ga, hga⟩ : ∃ g, w4.heap.size = g := ⟨_, rfl⟩
      rw [hga] at hs1 p0 p1 f0 f1 ka
      have b5 := Below.after b4 ba
      have B5 : Hid (Below W1.heap.size W1 w5) := Lib.hid (B3.out.trans (b5.mono HN3.out))
      have HM5 := Lib.hid (HM.out.below b5)
      obtain ⟨d0, d1, d2, d3, d4⟩ := (HKC.out w5 B5.out).cells
      have KA := Lib.hid ka
      have HN5 : Hid (W1.heap.size ≤ w5.heap.size) := Lib.hid B5.out.size
      have HLN := Lib.hid (refLength_any HM5.out.rcs HM5.out.mt.2.2 (Nat.le_trans HM5.out.len (by decide)) HM5.out.tl len)
      have HRM := Lib.hid (fun w (hw : Below w5.heap.size w5 w) => refMap_any ((HM5.out.below hw).rcs) HM5.out.mt.2.2 (Nat.le_trans HM5.out.len (by decide)) HM5.out.tl HIN.out.2.2 HL0.out r)
      rw [HRS.out] at HRM
      rw [HL0.out] at HLN
      obtain ⟨nl, hnl⟩ : ∃ n, (lngF E len L).1 = n := ⟨_, rfl⟩
      rw [hnl] at HLN
      clear ka ba b4 b5 HMP HM hres hnl
      dsimp only at HRM
      go_wp2_with fail
      clear hz hs1 p0 p1 f0 f1 d0 d1 d2 d3 d4 hga
      refine HLN.out.mono ?_
      rintro e w6 ⟨rfl, b6⟩
      have B6 : Hid (Below W1.heap.size W1 w6) := Lib.hid (B5.out.trans (b6.mono HN5.out))
      obtain ⟨d0, d1, d2, d3, d4⟩ := (HKC.out w6 B6.out).cells
      have HN6 : Hid (W1.heap.size ≤ w6.heap.size) := Lib.hid B6.out.size
      have HB56 := Lib.hid b6
      have HV := Lib.hid (valid01_any w6 len)
      have HAW := Lib.hid (awake_any w6)
      obtain ⟨i1, i2, i3, i4⟩ := HIN.out
      rw [decide_eq_true ⟨i1, i2⟩] at HV
      have hx1 : ¬ x < 0 := by omega
      have hx2 : ¬ x > len := by omega
      clear b6 HLN i1 i2 i3 i4
      go_wp2_with fail
      clear d0 d1 d2 d3 d4
      refine HV.out.mono ?_; rintro e w ⟨rfl, h⟩; rw [h]; clear h w
      obtain ⟨d0, d1, d2, d3, d4⟩ := (HKC.out w6 B6.out).cells
      go_wp2_with fail
      clear d0 d1 d2 d3 d4
      refine HAW.out.mono ?_; rintro e w7 ⟨rfl, b7⟩
      have HNM := Lib.hid (num_nil w7)
      have B7 : Hid (Below W1.heap.size W1 w7) := Lib.hid (B6.out.trans (b7.mono HN6.out))
      have HB57 := Lib.hid (Below.after HB56.out b7)
      obtain ⟨d0, d1, d2, d3, d4⟩ := (HKC.out w7 B7.out).cells
      have HRM7 := Lib.hid (HRM.out w7 HB57.out)
      have HN7 : Hid (W1.heap.size ≤ w7.heap.size) := Lib.hid B7.out.size
      clear b7
      go_wp2_with fail
      refine HNM.out.mono ?_; rintro e w ⟨rfl, h⟩; rw [h]; clear h w
      go_wp2_with fail
      clear d0 d1 d2 d3 d4
      refine HRM7.out.mono ?_; rintro e w8 ⟨rfl, b8⟩
      have B8 : Hid (Below W1.heap.size W1 w8) := Lib.hid (B7.out.trans (b8.mono HN7.out))
      obtain ⟨d0, d1, d2, d3, d4⟩ := (HKC.out w8 B8.out).cells
      obtain ⟨y0, y1, -, -⟩ := AnC.cells (show AnC w8 ga ra r from below_block (Below.after HB57.out b8) KA.out)
      have HBE := Lib.hid (B1.out.trans (B8.out.mono B1.out.size))
      have heq := an_eq ra ra r r
      rw [decide_eq_true (show ra = ra ∧ r = r from ⟨rfl, rfl⟩)] at heq
      have hgd : Try.prog.eqGuardType Try.prog.depth 33 = false := by kernel_rfl
      clear b8
      go_wp2_with fail
      go_ret
      exact ⟨by simp, HBE.out⟩
end M
end Go.Proofs.Ytplccefjljdjnaa
