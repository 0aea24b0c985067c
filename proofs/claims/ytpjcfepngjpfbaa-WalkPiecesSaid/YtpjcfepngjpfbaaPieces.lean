/- WalkPieces: the walk (printed by walk/mkpcs.py). -/
import Derived.Test.YtpjcfepngjpfbaaAws
import Derived.Test.YtpjcfepngjpfbaaMds
import Derived.Test.YtpjcfepngjpfbaaBld14
import Derived.Test.YtpjcfepngjpfbaaPcSeq
import Derived.Test.YtpjcfepngjpfbaaRefPc
import Derived.Test.YtpjcfepngjpfbaaBks
set_option linter.unusedVariables false
set_option linter.unusedSimpArgs false
namespace Go.Proofs.Ytpjcfepngjpfbaa
open Go.RowKit Go.Lib
namespace M
attribute [local go_sem] Oper.semAt_some
set_option maxRecDepth 100000 in
set_option maxHeartbeats 16000000 in
theorem lawPieces_any {W : World} {v : Value} {L : List Stp} (hL : RowStp W v L) (x y : Int) :
    Calls Try.prog 4 #[v, .int .i64 x, .int .i64 y] W fun e w' => e = .returned (.bool true) ∧ Below W.heap.size W w' := by
  have HF : ∀ f, Fence.wide.fn f := fun _ => trivial
  obtain ⟨W0, hW0⟩ : ∃ w, W.alloc (.cells #[.bool false] 4) = w := ⟨_, rfl⟩
  have n6 : W0.heap[W.heap.size]? = some (.cells #[.bool false] 4 (0, 0)) := by rw [← hW0]; exact heap_new' _ _
  have hb0 : Below W.heap.size W W0 := by rw [← hW0]; exact (Below.refl _ W).alloc (Nat.le_refl _) _
  have HBD := Lib.hid (build14_any (hL.under hb0 (Nat.le_refl _)))
  have HN6 := Lib.hid n6; have HB0 := Lib.hid hb0
  clear n6 hb0 hL
  refine (callsIn_wide (n := 9)).1 ?_
  refine callsIn_of_wp_marks Try.func4 rfl trivial ?_ rfl
  simp only [Try.ntmps4, List.size_toArray, List.length_cons, List.length_nil, Nat.reduceAdd, Nat.reduceSub, Array.replicate_succ, Array.replicate_zero, List.push_toArray, List.append_toArray, List.nil_append, List.cons_append]
  gi_wp2_with fail
  first | refine callsIn_wide.2 (HBD.out.mono ?_) | refine ⟨(fun h => by cases h), callsIn_wide.2 (HBD.out.mono ?_)⟩ | refine ⟨trivial, (fun h => by cases h), callsIn_wide.2 (HBD.out.mono ?_)⟩
  rintro e w1 ⟨B, E, ids, T, iv, lv, tv, rfl, s1, hwd, hEl, hil, hI, hT, hS, hO, b1⟩
  obtain ⟨ia, il, ic, rfl⟩ : ∃ a l c, iv = .slice a l c := by obtain ⟨a, c, h⟩ := hI.len; exact ⟨a, _, c, h⟩
  obtain ⟨la, ll, lc, rfl⟩ : ∃ a l c, lv = .slice a l c := by obtain ⟨a, c, h⟩ := hT.len; exact ⟨a, _, c, h⟩
  obtain ⟨ta, tl', tc, rfl⟩ : ∃ a l c, tv = .slice a l c := by obtain ⟨a, c, h⟩ := hS.len; exact ⟨a, _, c, h⟩
  obtain ⟨wz2, w2, hz2, hs2, k7, b2, z7⟩ := newMd w1 B (.slice ia il ic) (.slice la ll lc) (.slice ta tl' tc)
  obtain ⟨g7, hg7⟩ : ∃ y, w1.heap.size = y := ⟨_, rfl⟩
  rw [hg7] at hs2 k7 z7
  obtain ⟨⟨p0, p1, p2, p3⟩, q0, q1, q2, q3⟩ := z7.cells
  have HLA := Lib.hid (last_any (B := B) (SlA.below hI b2) (SlA.below hT b2) (SlA.below hS b2) (hO.keep (KeepT.below b2)) hil)
  obtain ⟨c0, c1, c2, c3⟩ := k7.cells
  have HB2 := Lib.hid (Below.after b1 b2)
  have HN6b := Lib.hid (below_block HB2.out HN6.out)
  have HM2 := Lib.hid k7; have HS2 := Lib.hid (s1.below b2); have HWD := Lib.hid hwd
  have HEL := Lib.hid (show E.length ≤ 1048576 by omega)
  have HG7 : Hid (W.heap.size < g7) := Lib.hid (by rw [← hg7]; exact (Array.getElem?_eq_some_iff.1 (below_block b1 HN6.out)).1)
  clear b1 b2 s1 hwd hEl hil hI hT hS hO k7 z7 HBD HN6
  gi_wp2_with fail
  first | refine callsIn_wide.2 (HLA.out.mono ?_) | refine ⟨(fun h => by cases h), callsIn_wide.2 (HLA.out.mono ?_)⟩ | refine ⟨trivial, (fun h => by cases h), callsIn_wide.2 (HLA.out.mono ?_)⟩
  rintro e w3 ⟨id, ⟨ua, ul, uc⟩, rfl, hid, hbal, hul, hby, b3⟩
  obtain ⟨kn, hkn⟩ : ∃ y, decide ((txt E id).length ≤ 4096) = y := ⟨_, rfl⟩
  rw [hkn]
  obtain ⟨tl, htl⟩ : ∃ y, (txt E id).length = y := ⟨_, rfl⟩
  rw [htl] at hkn ⊢
  have hlb := (HWD.out.wf.len hid).2
  rw [htl] at hlb
  have HAW := Lib.hid (awake17_any w3)
  have HN6c := Lib.hid (below_block b3 HN6b.out)
  have HM4 := Lib.hid (show McC w3 g7 B (.slice ia il ic) (.slice la ll lc) (.slice ta tl' tc) from below_block b3 HM2.out)
  have HS4 := Lib.hid (HS2.out.below b3)
  have HB4 := Lib.hid (Below.after HB2.out b3)
  have HTL := Lib.hid htl; have HID := Lib.hid hid; have HLB := Lib.hid hlb; have HEV := Lib.hid hbal.even
  clear b3 hul hby hkn htl hid hbal hlb HLA HN6b HM2 HS2 HB2
  gi_wp2_with fail
  first | refine callsIn_wide.2 (HAW.out.mono ?_) | refine ⟨(fun h => by cases h), callsIn_wide.2 (HAW.out.mono ?_)⟩ | refine ⟨trivial, (fun h => by cases h), callsIn_wide.2 (HAW.out.mono ?_)⟩
  rintro e w5 ⟨rfl, b5⟩
  have HN6d := Lib.hid (below_block b5 HN6c.out)
  have HM5 := Lib.hid (show McC w5 g7 B (.slice ia il ic) (.slice la ll lc) (.slice ta tl' tc) from below_block b5 HM4.out)
  have HS5 := Lib.hid (HS4.out.below b5)
  have HBW : Hid (Below W.heap.size W w5) := Lib.hid (Below.after HB0.out (Below.after HB4.out b5))
  have HOF := Lib.hid (offset_any w5 x (n := tl) HLB.out)
  clear b5 HAW HN6c HM4 HS4 HB4 hz2 hs2 p0 p1 p2 p3 q0 q1 q2 q3 c0 c1 c2 c3 hW0
  gi_wp2_with fail
  first | refine callsIn_wide.2 (HOF.out.mono ?_) | refine ⟨(fun h => by cases h), callsIn_wide.2 (HOF.out.mono ?_)⟩ | refine ⟨trivial, (fun h => by cases h), callsIn_wide.2 (HOF.out.mono ?_)⟩
  rintro e w6x ⟨fr, rfl, hfr, hw6x⟩
  rw [hw6x]
  clear hw6x w6x
  have hsw : IntKind.i64.wrap ((tl : Int) - (fr : Int)) = ((tl - fr : Nat) : Int) := by rw [IntKind.wrap_i64]; have := HLB.out; omega
  obtain ⟨df, hdf⟩ : ∃ y, tl - fr = y := ⟨_, rfl⟩
  rw [hdf] at hsw
  have HFR : Hid (fr ≤ tl ∧ df = tl - fr) := Lib.hid ⟨hfr, hdf.symm⟩
  have HOG := Lib.hid (offset_any w5 y (n := df) (by have := HLB.out; omega))
  clear hfr hdf HOF
  gi_wp2_with fail
  first | refine callsIn_wide.2 (HOG.out.mono ?_) | refine ⟨(fun h => by cases h), callsIn_wide.2 (HOG.out.mono ?_)⟩ | refine ⟨trivial, (fun h => by cases h), callsIn_wide.2 (HOG.out.mono ?_)⟩
  rintro e w7x ⟨nn, rfl, hnn, hw7x⟩
  rw [hw7x]
  clear hw7x w7x
  have HFN : Hid (fr + nn ≤ tl) := Lib.hid (by have := HFR.out; omega)
  obtain ⟨c0, -, -, -⟩ := McC.cells HM5.out
  have HTB := Lib.hid (table_any HS5.out HWD.out.wf HEL.out)
  clear hnn HOG hsw
  gi_wp2_with fail
  first | refine callsIn_wide.2 (HTB.out.mono ?_) | refine ⟨(fun h => by cases h), callsIn_wide.2 (HTB.out.mono ?_)⟩ | refine ⟨trivial, (fun h => by cases h), callsIn_wide.2 (HTB.out.mono ?_)⟩
  rintro e w8 ⟨rv, lv, rfl, hR, hLn, b8⟩
  have HN8 := Lib.hid (below_block b8 HN6d.out)
  have HM8 := Lib.hid (show McC w8 g7 B (.slice ia il ic) (.slice la ll lc) (.slice ta tl' tc) from below_block b8 HM5.out)
  have HS8 := Lib.hid (HS5.out.below b8)
  have HB8 := Lib.hid (Below.after HBW.out b8)
  have hfw : IntKind.i64.wrap ((fr : Int) + (nn : Int)) = ((fr + nn : Nat) : Int) := by rw [IntKind.wrap_i64]; have := HLB.out; have := HFN.out; omega
  have HRP := Lib.hid (refPc_any HWD.out HEL.out (f := fr) (t := fr + nn) (Nat.le_add_right _ _) id HID.out HEV.out 0 w8 rv lv w5.heap.size (by rw [HTL.out]; have := HLB.out; omega) hR hLn)
  have HYI : Hid (∀ p ∈ pcF E fr (fr + nn) id 0, 0 < p.2 ∧ p.2 ≤ id) := Lib.hid (pcF_mem HWD.out id 0 HID.out HEV.out)
  have HYM : Hid ((pcF E fr (fr + nn) id 0).length ≤ 2097153) := Lib.hid (by
    have h1 := pcF_many HWD.out (f := fr) (t := fr + nn) id 0 HID.out HEV.out
    have h2 : (entAt E id).depth ≤ 1048576 := by
      rcases Nat.eq_zero_or_pos id with h | h
      · subst h; show (0 : Nat) ≤ _; omega
      · have h1 := (HWD.out.wf.get id h HID.out).2.2.2; have h2 := HEL.out; have h3 := HID.out; omega
    omega)
  obtain ⟨tn, htn⟩ : ∃ y, fr + nn = y := ⟨_, rfl⟩
  have HTN := Lib.hid htn
  rw [htn] at hfw HRP HYI HYM
  clear b8 hR hLn HTB HN6d HM5 HS5 HBW c0 htn
  gi_wp2_with fail
  first | refine callsIn_wide.2 (HRP.out.mono ?_) | refine ⟨(fun h => by cases h), callsIn_wide.2 (HRP.out.mono ?_)⟩ | refine ⟨trivial, (fun h => by cases h), callsIn_wide.2 (HRP.out.mono ?_)⟩
  rintro e w9 ⟨wv, rfl, hP, b9⟩
  obtain ⟨wa, wc, hwv⟩ := hP.len
  obtain ⟨yl, hyl⟩ : ∃ y, (pcF E fr tn id 0).length = y := ⟨_, rfl⟩
  rw [hyl] at hwv
  subst hwv
  obtain ⟨wz, w10, hz10, hs10, k15, b10, z15, f15⟩ := newBx w9 45 (.slice none 0 0) (.slice wa yl wc)
  obtain ⟨g15, hg15⟩ : ∃ y, w9.heap.size = y := ⟨_, rfl⟩
  rw [hg15] at hs10 k15 z15 f15
  obtain ⟨wy, w11, hz11, hs11, k16, b11, z16, f16⟩ := newBx w10 3 (.int .i64 0) (.int .i64 0)
  obtain ⟨g16, hg16⟩ : ∃ y, w10.heap.size = y := ⟨_, rfl⟩
  rw [hg16] at hs11 k16 z16 f16
  have b911 := Below.after (Below.after b9 b10) b11
  have HP11 := Lib.hid (SlA.below (SlA.below hP b10) b11)
  have HK15 := Lib.hid (below_block b11 k15); have HK16 := Lib.hid k16
  have HN11 := Lib.hid (below_block b911 HN8.out)
  have HM11 := Lib.hid (show McC w11 g7 B (.slice ia il ic) (.slice la ll lc) (.slice ta tl' tc) from below_block b911 HM8.out)
  have HS11 := Lib.hid (HS8.out.below b911)
  have HB11 := Lib.hid (Below.after HB8.out b911)
  have HG16 : Hid (g7 < g15 ∧ g15 < g16) := Lib.hid ⟨by rw [← hg15]; exact (Array.getElem?_eq_some_iff.1 (show w9.heap[g7]? = _ from below_block b9 HM8.out)).1, by rw [← hg16]; exact (Array.getElem?_eq_some_iff.1 k15).1⟩
  have HYL := Lib.hid hyl
  have HPS := Lib.hid (pieces_seq HS11.out HWD.out HEL.out HID.out HEV.out (frm := fr) (k := nn) (by rw [HTL.out]; exact HFN.out))
  rw [HTN.out] at HPS
  obtain ⟨c0, -, -, -⟩ := McC.cells HM11.out
  clear hP b9 b10 b11 b911 k15 k16 HRP HN8 HM8 HS8 HB8 hyl
  gi_wp2_with fail
  first | refine callsIn_wide.2 (HPS.out.mono ?_) | refine ⟨(fun h => by cases h), callsIn_wide.2 (HPS.out.mono ?_)⟩ | refine ⟨trivial, (fun h => by cases h), callsIn_wide.2 (HPS.out.mono ?_)⟩
  rintro e w12 ⟨vq, rfl, ⟨gf, lb, rfl, hen, hst⟩, b12⟩
  obtain ⟨ls, hls⟩ : ∃ l : List (Nat × Array Value × TypeId), [(W.heap.size, #[.bool false], 4), (g7, #[.pointer (some ⟨B, 0, none⟩), .slice ia il ic, .slice la ll lc, .slice ta tl' tc], 28), (g15, #[.slice wa yl wc], 45)] = l := ⟨_, rfl⟩
  have HSB : Hid (SB ls w12) := Lib.hid (by
    intro p hp
    rw [← hls] at hp
    simp only [List.mem_cons, List.not_mem_nil, or_false] at hp
    rcases hp with rfl | rfl | rfl
    · exact below_block b12 HN11.out
    · exact below_block b12 HM11.out
    · exact below_block b12 HK15.out)
  have HCL : Hid (∀ Y, SB ls Y → Y.cell? ⟨g15, 0, none⟩ = some (.slice wa yl wc) ∧ Y.heap[W.heap.size]? = some (.cells #[.bool false] 4 (0, 0)) ∧ True) := Lib.hid (fun Y hY => by
    subst hls
    exact ⟨(hY.cell (g := g15) (cs := #[.slice wa yl wc]) (t := 45) (by simp) 0).1, hY (W.heap.size, #[.bool false], 4) (by simp), trivial⟩)
  have HTY : Hid (∀ p ∈ ls, p.2.2 ∉ PcT) := Lib.hid (fun p hp => by
    subst hls
    simp only [List.mem_cons, List.not_mem_nil, or_false] at hp
    rcases hp with rfl | rfl | rfl <;> (dsimp only; decide))
  have HLT : Hid (∀ p ∈ ls, p.1 ≠ g16) := Lib.hid (fun p hp => by
    subst hls
    have h1 := HG16.out; have h2 := HG7.out
    simp only [List.mem_cons, List.not_mem_nil, or_false] at hp
    rcases hp with rfl | rfl | rfl <;> (dsimp only; omega))
  clear hls
  have HEN := Lib.hid hen; have HSQ := Lib.hid hst
  have HJ : Hid (StJ [] ls W W0.heap.size w12.heap.size B E w12) := Lib.hid ⟨HSB.out, (HS11.out.below b12).b (Nat.le_refl _), Below.after HB11.out b12, by simp⟩
  have HP12 := Lib.hid (SlA.below HP11.out b12)
  have HK16b := Lib.hid (below_block b12 HK16.out)
  have HWZ : Hid (W.heap.size ≤ w12.heap.size) := Lib.hid HJ.out.2.2.1.size
  have HGB : Hid (W.heap.size ≤ g16 ∧ W.heap.size < w12.heap.size) := Lib.hid ⟨by have h1 := HG16.out; have h2 := HG7.out; omega, (Array.getElem?_eq_some_iff.1 (HCL.out w12 HSB.out).2.1).1⟩
  clear hen hst b12 HSB HN11 HM11 HS11 HB11 HP11 HK15 HK16 HPS c0 hz10 hs10 z15 f15 hz11 hs11 z16 f16 hg15 hg16
  generalize pcF E fr tn id 0 = ys at *
  gi_wp2_with fail
  refine wpIn_rangeFunc_T rfl (by omega) (gf := gf) (lb := lb) rfl trivial HEN.out (HSQ.out 8) KpI.trans (fun X l o o' hl ho hc _ => KpI.put X l o o' hl ho hc) (Below.refl _ _) (fun _ => rfl)
    (fun pre Y => StJ [] ls W W0.heap.size w12.heap.size B E Y ∧ Pcs w8.heap.size Y (.slice wa yl wc) ys ∧ Y.heap[g16]? = some (.cells #[.int .i64 (pre.length : Nat)] 3 (0, 0)))
    (fun c pre Y => False)
    (fun s A C row hs hg hr => ⟨hs.1.own hg hr (Nat.le_refl _) HWZ.out, own_SlA hg hr hs.2.1, own_cells hg hr hs.2.2⟩)
    (fun c s A C row hs => hs.elim)
    (fun s A C hs h => ⟨hs.1.kpl h HTY.out (by decide) (by decide) HWZ.out, SlA.keep hs.2.1 (h.cells _ (by decide)), h.cells _ (by decide) _ _ _ hs.2.2⟩)
    (fun c s A C hs => hs.elim)
    ⟨HJ.out, HP12.out, HK16b.out⟩ ?round ?done (fun D c pre Y hD hp hx => hx.elim)
  case round =>
    intro l pre x' Y Yb K hI hlen hK
    have HF : ∀ f, (Fence.wide.inRound l).fn f := fun _ => trivial
    have HK := Lib.hid hK
    clear hK
    gi_wp2_with fail
    refine HK.out _ ?_
    clear HK
    obtain ⟨h1, h2, h3⟩ := hI
    obtain ⟨hlt, hget⟩ := pre_next hlen
    obtain ⟨a, i⟩ := x'
    obtain ⟨e15, -, -⟩ := HCL.out Yb h1.1
    obtain ⟨k, hk⟩ : ∃ n, pre.length = n := ⟨_, rfl⟩
    have HKN := Lib.hid hk
    have hgk : ∃ h : k < ys.length, ys[k] = (a, i) := by subst hk; exact ⟨hlt, hget⟩
    obtain ⟨hky, hgk⟩ := hgk
    rw [hk] at h3
    obtain ⟨gw, rfl⟩ : ∃ gw, wa = some ⟨gw, 0, none⟩ := by
      rcases h2.shape with ⟨h, hn⟩ | ⟨g, c, h, -⟩
      · rw [hn] at hky; simp at hky
      · simp only [Value.slice.injEq] at h; exact ⟨g, h.1⟩
    have q0 := SlA.cell encQ_len h2 hky (j := 0) (by omega)
    have q1 := SlA.cell encQ_len h2 hky (j := 1) (by omega)
    rw [hgk] at q0 q1
    replace q0 : Yb.cell? ⟨gw, k * 2, none⟩ = some (.int .i64 a) := q0
    replace q1 : Yb.cell? ⟨gw, k * 2 + 1, none⟩ = some (.int .i64 i) := q1
    rw [HYL.out] at hky
    have c16 : Yb.cell? ⟨g16, 0, none⟩ = some (.int .i64 k) := by simp [World.cell?, h3]
    have f16 : Yb.frozen? ⟨g16, 0, none⟩ = false := by simp [World.frozen?, h3]
    have d1 : ¬ (yl : Int) ≤ (k : Int) := by omega
    have d1' : decide ((yl : Int) ≤ (k : Int)) = false := decide_eq_false d1
    have d2 : (k : Int) < (yl : Int) := by omega
    have b1 : ((a : Int) != (a : Int)) = false := by simp
    have b2 : ((i : Int) != (i : Int)) = false := by simp
    have hkw : IntKind.i64.wrap ((k : Int) + 1) = ((k + 1 : Nat) : Int) := by rw [IntKind.wrap_i64]; have := HYM.out; have := HYL.out; omega
    obtain ⟨k2, hk2⟩ : ∃ n, k + 1 = n := ⟨_, rfl⟩
    rw [hk2] at hkw
    obtain ⟨Yd, hYd⟩ : ∃ y, Yb.setCell ⟨g16, 0, none⟩ (.int .i64 k2) = y := ⟨_, rfl⟩
    have HFIN : Hid (StJ [] ls W W0.heap.size w12.heap.size B E Yd ∧ Pcs w8.heap.size Yd (.slice (some ⟨gw, 0, none⟩) yl wc) ys ∧ Yd.heap[g16]? = some (.cells #[.int .i64 (((pre ++ [(a, i)]).length : Nat) : Int)] 3 (0, 0)) ∧ KeepsOthers Yb Yd ∧ (∀ t, t ≠ 3 → KeepT t Yb Yd)) := Lib.hid (by
      rw [← hYd]
      refine ⟨h1.set h3 (by decide) (by decide) HLT.out HGB.out.1 _, SlA.setCell h2 (a := ⟨g16, 0, none⟩) _ h3 (by decide), ?_, keepsOthers_setCell (KeepsOthers.refl _) _ _, fun t ht => KeepT.setCell (a := ⟨g16, 0, none⟩) h3 (Ne.symm ht)⟩
      rw [List.length_append, List.length_singleton, HKN.out, hk2]
      exact heap_set0 _ h3)
    clear h1 h2 h3 hlen hlt hget hgk hky hk2
    gi_wp2_with fail
    obtain ⟨k1, k2, k3, k4, k5⟩ := HFIN.out
    exact ⟨k4, KpI.of_others (fun t ht => k5 t (by intro e; subst e; revert ht; decide)) k4, k1, k2, k3⟩
  case done =>
    rintro D xs Y hD rfl ⟨hj, -, h3⟩ hDc
    have HMF0 : Hid (Marks w12.heap.size Y [{ target := .collected D, args := #[] }]) := Lib.hid ((Marks.nil _ Y).cons (fun D' h => by cases h) hD hDc)
    rw [HYL.out] at h3
    have c16 : Y.cell? ⟨g16, 0, none⟩ = some (.int .i64 yl) := by simp [World.cell?, h3]
    have hb2 : ((yl : Int) == (yl : Int)) = true := by simp
    obtain ⟨e15, k8, -⟩ := HCL.out Y hj.1
    have c8 : Y.cell? ⟨W.heap.size, 0, none⟩ = some (.bool false) := by simp [World.cell?, k8]
    have f8 : Y.frozen? ⟨W.heap.size, 0, none⟩ = false := by simp [World.frozen?, k8]
    obtain ⟨Ye, hYe⟩ : ∃ y, Y.setCell ⟨W.heap.size, 0, none⟩ (.bool true) = y := ⟨_, rfl⟩
    have HC8 : Hid (Ye.heap[W.heap.size]? = some (.cells #[.bool true] 4 (0, 0))) := Lib.hid (by rw [← hYe]; exact heap_set0 _ k8)
    have HBF : Hid (Below W.heap.size W Ye) := Lib.hid (by rw [← hYe]; exact hj.2.2.1.setCell (p := ⟨W.heap.size, 0, none⟩) (Nat.le_refl _) _)
    have HMF := Lib.hid (HMF0.out.keep (by rw [← hYe]; exact KeepsOthers.setCell Y ⟨W.heap.size, 0, none⟩ (.bool true) : KeepsOthers Y Ye))
    have HZF : Hid (w12.heap.size ≤ Ye.heap.size) := Lib.hid (by rw [← hYe]; have := (Array.getElem?_eq_some_iff.1 hDc).1; simp; omega)
    clear k8 h3 hj hDc hD HEN HSQ
    gi_wp2_with fail
    refine HMF.out.leaves HZF.out fun w' hb' => ?_
    have hc7 := (hb'.block W.heap.size HGB.out.2).trans HC8.out
    have hc8 : w'.cell? ⟨W.heap.size, 0, none⟩ = some (.bool true) := by simp [World.cell?, hc7]
    refine ⟨.bool true, ?_, rfl, HBF.out.trans (hb'.mono HWZ.out)⟩
    simp [results, Try.f4, go_sem, hc8]
end M
end Go.Proofs.Ytpjcfepngjpfbaa
