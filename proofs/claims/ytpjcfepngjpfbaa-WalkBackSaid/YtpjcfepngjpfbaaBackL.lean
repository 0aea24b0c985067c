/- WalkBack: the walk (printed by walk/mklet.py). -/
import Derived.Test.YtpjcfepngjpfbaaAws
import Derived.Test.YtpjcfepngjpfbaaMds
import Derived.Test.YtpjcfepngjpfbaaBks
import Derived.Test.YtpjcfepngjpfbaaOneB
import Derived.Test.YtpjcfepngjpfbaaGrow
set_option linter.unusedVariables false
set_option linter.unusedSimpArgs false
namespace Go.Proofs.Ytpjcfepngjpfbaa
open Go.RowKit Go.Lib
namespace M
attribute [local go_sem] Oper.semAt_some
set_option maxRecDepth 100000 in
set_option maxHeartbeats 16000000 in
theorem backL_any {W : World} {v : Value} {L : List RuI} (hL : RowRu W v L) (hbig : L.length * 8 ≤ 140737488355328) (x : Int) :
    Calls Try.prog 7 #[v, .int .i64 x] W fun e w' => e = .returned (.bool true) ∧ Below W.heap.size W w' := by
  have HF : ∀ f, Fence.wide.fn f := fun _ => trivial
  obtain ⟨W0, hW0⟩ : ∃ w, W.alloc (.cells #[.bool false] 4) = w := ⟨_, rfl⟩
  have n6 : W0.heap[W.heap.size]? = some (.cells #[.bool false] 4 (0, 0)) := by rw [← hW0]; exact heap_new' _ _
  have hb0 : Below W.heap.size W W0 := by rw [← hW0]; exact (Below.refl _ W).alloc (Nat.le_refl _) _
  have hl0 := hL.under hb0 (Nat.le_refl _)
  have HL0 : Hid (∀ C, Below W0.heap.size W0 C → RowRu C v L) := Lib.hid (fun C hC => hl0.under hC (Nat.le_refl _))
  have HN6 := Lib.hid n6; have HB0 := Lib.hid hb0; have HBG := Lib.hid hbig
  have HNW := Lib.hid (snew_any W0 1000 (by omega))
  obtain ⟨va, ln, vc, hv⟩ : ∃ a l c, v = .slice a l c := by obtain ⟨a, c, h, -⟩ := hL; exact ⟨a, _, c, h⟩
  subst hv
  clear n6 hb0 hL hl0 hbig
  refine (callsIn_wide (n := 9)).1 ?_
  refine callsIn_of_wp_marks Try.func7 rfl trivial ?_ rfl
  simp only [Try.ntmps7, List.size_toArray, List.length_cons, List.length_nil, Nat.reduceAdd, Nat.reduceSub, Array.replicate_succ, Array.replicate_zero, List.push_toArray, List.append_toArray, List.nil_append, List.cons_append]
  gi_wp2_with fail
  first | refine callsIn_wide.2 (HNW.out.mono ?_) | refine ⟨(fun h => by cases h), callsIn_wide.2 (HNW.out.mono ?_)⟩ | refine ⟨trivial, (fun h => by cases h), callsIn_wide.2 (HNW.out.mono ?_)⟩
  rintro e w1 ⟨B, rfl, s1, b1⟩
  have HB1 := Lib.hid b1
  have HGW := Lib.hid (grow_any s1 (by omega) (fun C hC => HL0.out C (b1.trans hC)) HBG.out)
  clear s1 b1 HNW hW0
  gi_wp2_with fail
  first | refine callsIn_wide.2 (HGW.out.mono ?_) | refine ⟨(fun h => by cases h), callsIn_wide.2 (HGW.out.mono ?_)⟩ | refine ⟨trivial, (fun h => by cases h), callsIn_wide.2 (HGW.out.mono ?_)⟩
  rintro e w2 ⟨id, ta, tl, tc, ok, rfl, b2, hok⟩
  obtain ⟨wz, w3, hz3, hs3, k7, b3, z7, f7⟩ := newBx w2 32 (.slice none 0 0) (.slice ta tl tc)
  obtain ⟨g7, hg7⟩ : ∃ y, w2.heap.size = y := ⟨_, rfl⟩
  rw [hg7] at hs3 k7 z7 f7
  have HN2 : Hid (w2.heap[W.heap.size]? = some (.cells #[.bool false] 4 (0, 0))) := Lib.hid (((HB1.out.trans b2).block _ (Array.getElem?_eq_some_iff.1 HN6.out).1).trans HN6.out)
  have HN3 := Lib.hid (below_block b3 HN2.out)
  have HB2 : Hid (Below W.heap.size W w2) := Lib.hid (HB0.out.trans ((HB1.out.trans b2).mono HB0.out.size))
  have HB3 : Hid (Below W.heap.size W w3) := Lib.hid (Below.after HB2.out b3)
  have HAW := Lib.hid (awake17_any w3)
  have HK7 := Lib.hid k7; have HBX := Lib.hid b3
  have HOK := Lib.hid hok
  have HGG : Hid (W.heap.size < g7) := Lib.hid (by rw [← hg7]; exact (Array.getElem?_eq_some_iff.1 HN2.out).1)
  clear b2 b3 k7 hok HGW HB1 HN6 HL0
  gi_wp2_with fail
  first | refine callsIn_wide.2 (HAW.out.mono ?_) | refine ⟨(fun h => by cases h), callsIn_wide.2 (HAW.out.mono ?_)⟩ | refine ⟨trivial, (fun h => by cases h), callsIn_wide.2 (HAW.out.mono ?_)⟩
  rintro e w4 ⟨rfl, b4⟩
  have HN4 := Lib.hid (below_block b4 HN3.out)
  have HB4 := Lib.hid (Below.after HB3.out b4)
  have HK74 := Lib.hid (below_block b4 HK7.out)
  have B4 := Lib.hid b4
  clear b4 HN3 HB3 HK7 HAW hz3 hs3 z7 f7 hg7
  cases ok
  case false =>
    clear HOK HK74
    have k8 := HN4.out
    have c8 : w4.cell? ⟨W.heap.size, 0, none⟩ = some (.bool false) := by simp [World.cell?, k8]
    have f8 : w4.frozen? ⟨W.heap.size, 0, none⟩ = false := by simp [World.frozen?, k8]
    obtain ⟨Ye, hYe⟩ : ∃ y, w4.setCell ⟨W.heap.size, 0, none⟩ (.bool true) = y := ⟨_, rfl⟩
    have hc8 : Ye.cell? ⟨W.heap.size, 0, none⟩ = some (.bool true) := by
      have := heap_set0 (i := 0) (.bool true) k8
      rw [← hYe]; simp [World.cell?, this]
    have HBF : Hid (Below W.heap.size W Ye) := Lib.hid (by rw [← hYe]; exact HB4.out.setCell (p := ⟨W.heap.size, 0, none⟩) (Nat.le_refl _) _)
    clear k8
    gi_wp2_with fail
    refine ⟨.bool true, ?_, rfl, HBF.out⟩
    simp [results, Try.f7, go_sem, hc8]
  obtain ⟨E, s2, hwd, hE, hid, hT, hlen⟩ := HOK.out (by first | rfl | trivial)
  obtain rfl : tl = (txt E id).length := by
    obtain ⟨a, c, h⟩ := hT.len
    simp only [Value.slice.injEq] at h; exact h.2.1
  obtain ⟨tl, htl⟩ : ∃ y, (txt E id).length = y := ⟨_, rfl⟩
  have HTL := Lib.hid htl
  rw [htl] at hT hlen HK74 ⊢
  have HS4 := Lib.hid (s2.below (Below.after HBX.out B4.out))
  have HT4 := Lib.hid (SlA.below hT (Below.after HBX.out B4.out))
  have HWD := Lib.hid hwd; have HEL := Lib.hid hE; have HID := Lib.hid hid; have HLB := Lib.hid hlen
  have HOF := Lib.hid (offset_any w4 x (n := tl) (by omega))
  have c7 : w4.cell? ⟨g7, 0, none⟩ = some (.slice ta tl tc) := by simp [World.cell?, HK74.out]
  clear s2 hwd hE hid hT hlen HOK htl HBX B4 HN2 HB2
  gi_wp2_with fail
  first | refine callsIn_wide.2 (HOF.out.mono ?_) | refine ⟨(fun h => by cases h), callsIn_wide.2 (HOF.out.mono ?_)⟩ | refine ⟨trivial, (fun h => by cases h), callsIn_wide.2 (HOF.out.mono ?_)⟩
  rintro e w6x ⟨fr, rfl, hfr, hw6x⟩
  rw [hw6x]
  clear hw6x w6x
  have HFR := Lib.hid hfr
  obtain ⟨wy, w11, hz11, hs11, k16, b11, z16, f16⟩ := newBx w4 3 (.int .i64 0) (.int .i64 fr)
  obtain ⟨g16, hg16⟩ : ∃ y, w4.heap.size = y := ⟨_, rfl⟩
  rw [hg16] at hs11 k16 z16 f16
  have HK16 := Lib.hid k16
  have HP11 := Lib.hid (SlA.below HT4.out b11)
  have HK15 := Lib.hid (below_block b11 HK74.out)
  have HN11 := Lib.hid (below_block b11 HN4.out)
  have HS11 := Lib.hid (HS4.out.below b11)
  have HB11 := Lib.hid (Below.after HB4.out b11)
  have HG16 : Hid (W.heap.size < g7 ∧ g7 < g16) := Lib.hid ⟨HGG.out, by rw [← hg16]; exact (Array.getElem?_eq_some_iff.1 HK74.out).1⟩
  have HPS := Lib.hid (back_seq HS11.out HWD.out.wf (by have := HEL.out; omega) HID.out (frm := fr) (by rw [HTL.out]; exact HFR.out))
  clear hfr b11 k16 HOF HN4 HS4 HB4 HT4 HK74 c7
  gi_wp2_with fail
  first | refine callsIn_wide.2 (HPS.out.mono ?_) | refine ⟨(fun h => by cases h), callsIn_wide.2 (HPS.out.mono ?_)⟩ | refine ⟨trivial, (fun h => by cases h), callsIn_wide.2 (HPS.out.mono ?_)⟩
  rintro e w12 ⟨vq, rfl, ⟨gf, lb, rfl, hen, hst⟩, b12⟩
  obtain ⟨M, hM⟩ : ∃ y, w12.heap.size = y := ⟨_, rfl⟩
  have HM := Lib.hid hM
  have k15 := below_block b12 HK15.out
  have k16 := below_block b12 HK16.out
  have kr := below_block b12 HN11.out
  have HLT : Hid (g7 < M ∧ g16 < M ∧ W.heap.size < M) := Lib.hid (by rw [← hM]; exact ⟨(Array.getElem?_eq_some_iff.1 k15).1, (Array.getElem?_eq_some_iff.1 k16).1, (Array.getElem?_eq_some_iff.1 kr).1⟩)
  have HBW : Hid (Below W.heap.size W w12) := Lib.hid (Below.after HB11.out b12)
  have HP12 := Lib.hid (SlA.below HP11.out b12)
  have HK15b := Lib.hid k15; have HK16b := Lib.hid k16; have HKR := Lib.hid kr
  have HEN := Lib.hid hen; have HSQ := Lib.hid hst
  rw [hM] at HSQ
  clear hen hst b12 k15 k16 kr HN11 HS11 HB11 HP11 HK15 HK16 HPS hz11 hs11 z16 f16 hg16 hM
  gi_wp2_with fail
  refine wpIn_rangeFunc_T rfl (by omega) (gf := gf) (lb := lb) rfl trivial HEN.out (HSQ.out 8) KpI.trans (fun X l o o' hl ho hc _ => KpI.put X l o o' (HM.out ▸ hl) ho hc) (Below.refl _ _) (fun _ => rfl)
    (fun pre Y => OnB M g16 w12 Y ∧ Below W.heap.size W Y ∧ Y.heap[g16]? = some (.cells #[.int .i64 ((fr - pre.length : Nat) : Int)] 3 (0, 0)))
    (fun c pre Y => False)
    (fun s A C row hs hg hr => ⟨hs.1.own HM.out hg (HM.out ▸ hr), own_below hg hr (Nat.le_refl _) (by rw [HM.out]; exact Nat.le_of_lt HLT.out.2.2) hs.2.1, own_cells hg hr hs.2.2⟩)
    (fun c s A C row hs => hs.elim)
    (fun s A C hs h => ⟨hs.1.below (HM.out ▸ h.below), hs.2.1.trans (h.below.mono (by rw [HM.out]; exact Nat.le_of_lt HLT.out.2.2)), ((HM.out ▸ h.below : Below M A C).block g16 HLT.out.2.1).trans hs.2.2⟩)
    (fun c s A C hs => hs.elim)
    ⟨fun _ _ _ => rfl, HBW.out, HK16b.out⟩ ?round ?done (fun D c pre Y hD hp hx => hx.elim)
  case round =>
    intro l pre x' Y Yb K hI hlen hK
    have HF : ∀ f, (Fence.wide.inRound l).fn f := fun _ => trivial
    have HK := Lib.hid hK
    clear hK
    gi_wp2_with fail
    refine HK.out _ ?_
    clear HK
    obtain ⟨h1, h2, h3⟩ := hI
    obtain ⟨hlt, hxa, hxc⟩ := lzs_prev (by rw [HTL.out]; exact HFR.out) hlen
    obtain ⟨k, hk⟩ : ∃ n, fr - 1 - pre.length = n := ⟨_, rfl⟩
    obtain ⟨kk, hkk⟩ : ∃ n, fr - pre.length = n := ⟨_, rfl⟩
    have HKN : Hid (fr - (pre.length + 1) = k ∧ kk = k + 1) := Lib.hid ⟨by omega, by omega⟩
    rw [hk] at hxa hxc
    rw [hkk] at h3
    have hkt : k < tl := by have := HFR.out; omega
    obtain ⟨a, c⟩ := x'
    dsimp only at hxa hxc
    have hxa2 := hxa.symm
    subst hxa2
    clear hxa
    have e15 : Yb.cell? ⟨g7, 0, none⟩ = some (.slice ta tl tc) := by
      rw [h1.cell HLT.out.1 (by have := HG16.out; omega)]
      simp [World.cell?, HK15b.out]
    have hky : k < (txt E id).length := by rw [HTL.out]; exact hkt
    have hgk : (txt E id)[k] = c := by rw [List.getElem?_eq_getElem hky] at hxc; exact Option.some.inj hxc
    obtain ⟨gw, rfl⟩ : ∃ gw, ta = some ⟨gw, 0, none⟩ := by
      rcases HP12.out.shape with ⟨h, hn⟩ | ⟨g, c, h, -⟩
      · rw [hn] at hky; simp at hky
      · simp only [Value.slice.injEq] at h; exact ⟨g, h.1⟩
    have q0 := SlA.cell encB_len HP12.out hky (j := 0) (by omega)
    rw [hgk, Nat.mul_one, Nat.add_zero] at q0
    have hgwM : gw < M ∧ gw ≠ g16 := by
      obtain ⟨cs, fz, hgw⟩ : ∃ cs fz, w12.heap[gw]? = some (.cells cs 5 fz) := by
        have := HP12.out
        rcases this.2 with ⟨h, _⟩ | ⟨g, cap, cur, h, _, hgb, _⟩
        · cases h
        · simp only [Value.slice.injEq, Option.some.injEq, Addr.mk.injEq] at h
          rw [h.1.1]; exact ⟨_, _, hgb⟩
      refine ⟨by rw [← HM.out]; exact (Array.getElem?_eq_some_iff.1 hgw).1, fun e => ?_⟩
      rw [e, HK16b.out] at hgw; simp at hgw
    have c16 : Yb.cell? ⟨g16, 0, none⟩ = some (.int .i64 kk) := by simp [World.cell?, h3]
    have f16 : Yb.frozen? ⟨g16, 0, none⟩ = false := by simp [World.frozen?, h3]
    obtain ⟨Yd, hYd⟩ : ∃ y, Yb.setCell ⟨g16, 0, none⟩ (.int .i64 k) = y := ⟨_, rfl⟩
    have h1d : OnB M g16 w12 Yd := by rw [← hYd]; exact h1.set _
    have q0y : Yd.cell? ⟨gw, k, none⟩ = some (.int .u8 c) := by
      rw [h1d.cell hgwM.1 hgwM.2]; exact q0
    have e15d : Yd.cell? ⟨g7, 0, none⟩ = some (.slice (some ⟨gw, 0, none⟩) tl tc) := by
      rw [h1d.cell HLT.out.1 (by have := HG16.out; omega)]
      simp [World.cell?, HK15b.out]
    have h3d : Yd.heap[g16]? = some (.cells #[.int .i64 (k : Nat)] 3 (0, 0)) := by rw [← hYd]; exact heap_set0 _ h3
    have c16d : Yd.cell? ⟨g16, 0, none⟩ = some (.int .i64 k) := by simp [World.cell?, h3d]
    have d1 : ¬ (k : Int) < 0 := by omega
    have d1' : decide ((k : Int) < 0) = false := decide_eq_false d1
    have d2 : (k : Int) < (tl : Int) := by omega
    have b1 : ((k : Int) != (k : Int)) = false := by simp
    have b2 : ((c : Int) != (c : Int)) = false := by simp
    have hkw : IntKind.i64.wrap ((kk : Int) - 1) = (k : Int) := by rw [IntKind.wrap_i64]; have h1 := HLB.out; have h2 := HKN.out; omega
    have HFIN : Hid (OnB M g16 w12 Yd ∧ Below W.heap.size W Yd ∧ Yd.heap[g16]? = some (.cells #[.int .i64 ((fr - (pre ++ [(k, c)]).length : Nat) : Int)] 3 (0, 0)) ∧ KeepsOthers Yb Yd ∧ (∀ t, t ≠ 3 → KeepT t Yb Yd)) := Lib.hid (by
      refine ⟨h1d, by rw [← hYd]; exact h2.setCell (p := ⟨g16, 0, none⟩) (by have := HG16.out; show W.heap.size ≤ g16; omega) _, ?_, by rw [← hYd]; exact keepsOthers_setCell (KeepsOthers.refl _) _ _, fun t ht => by rw [← hYd]; exact KeepT.setCell (a := ⟨g16, 0, none⟩) h3 (Ne.symm ht)⟩
      rw [List.length_append, List.length_singleton, HKN.out.1]
      exact h3d)
    clear h1 h2 h3 h1d h3d hlen hlt hgk hky q0 hxc hkt hk hkk
    gi_wp2_with fail
    obtain ⟨k1, k2, k3, k4, k5⟩ := HFIN.out
    exact ⟨k4, KpI.of_others (fun t ht => k5 t (by intro e; subst e; revert ht; decide)) k4, k1, k2, k3⟩
  case done =>
    rintro D xs Y hD rfl ⟨hj, hb, h3⟩ hDc
    have HMF0 : Hid (Marks w12.heap.size Y [{ target := .collected D, args := #[] }]) := Lib.hid ((Marks.nil _ Y).cons (fun D' h => by cases h) hD hDc)
    have hlz : fr - (lzs ((txt E id).take fr) 0).reverse.length = 0 := by rw [List.length_reverse, lzs_length, List.length_take, HTL.out]; have := HFR.out; omega
    rw [hlz] at h3
    have c16 : Y.cell? ⟨g16, 0, none⟩ = some (.int .i64 0) := by simp [World.cell?, h3]
    clear hlz
    have k8 : Y.heap[W.heap.size]? = some (.cells #[.bool false] 4 (0, 0)) := (hj _ HLT.out.2.2 (by have := HG16.out; omega)).trans HKR.out
    have c8 : Y.cell? ⟨W.heap.size, 0, none⟩ = some (.bool false) := by simp [World.cell?, k8]
    have f8 : Y.frozen? ⟨W.heap.size, 0, none⟩ = false := by simp [World.frozen?, k8]
    obtain ⟨Ye, hYe⟩ : ∃ y, Y.setCell ⟨W.heap.size, 0, none⟩ (.bool true) = y := ⟨_, rfl⟩
    have HC8 : Hid (Ye.heap[W.heap.size]? = some (.cells #[.bool true] 4 (0, 0))) := Lib.hid (by rw [← hYe]; exact heap_set0 _ k8)
    have HBF : Hid (Below W.heap.size W Ye) := Lib.hid (by rw [← hYe]; exact hb.setCell (p := ⟨W.heap.size, 0, none⟩) (Nat.le_refl _) _)
    have HMF := Lib.hid (HMF0.out.keep (by rw [← hYe]; exact KeepsOthers.setCell Y ⟨W.heap.size, 0, none⟩ (.bool true) : KeepsOthers Y Ye))
    have HZF : Hid (w12.heap.size ≤ Ye.heap.size) := Lib.hid (by rw [← hYe]; have := (Array.getElem?_eq_some_iff.1 hDc).1; simp; omega)
    clear k8 h3 hj hb hDc hD HEN HSQ
    gi_wp2_with fail
    refine HMF.out.leaves HZF.out fun w' hb' => ?_
    have hc7 := (hb'.block W.heap.size (by rw [HM.out]; exact HLT.out.2.2)).trans HC8.out
    have hc8 : w'.cell? ⟨W.heap.size, 0, none⟩ = some (.bool true) := by simp [World.cell?, hc7]
    refine ⟨.bool true, ?_, rfl, HBF.out.trans (hb'.mono (by rw [HM.out]; exact Nat.le_of_lt HLT.out.2.2))⟩
    simp [results, Try.f7, go_sem, hc8]
end M
end Go.Proofs.Ytpjcfepngjpfbaa
