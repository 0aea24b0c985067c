/- WalkTwice: the walk. -/
import Derived.Test.YtpjcfepngjpfbaaAwk17
import Derived.Test.YtpjcfepngjpfbaaOff17
import Derived.Test.YtpjcfepngjpfbaaByR
import Derived.Test.YtpjcfepngjpfbaaBld14
import Derived.Test.YtpjcfepngjpfbaaOwn
namespace Go.Proofs.Ytpjcfepngjpfbaa
open Go.RowKit Go.Lib
namespace M
attribute [local go_sem] Oper.semAt_some
theorem lzs_snd : ∀ (l : List Nat) (a : Nat), (lzs l a).map (·.2) = l
  | [], _ => rfl
  | b :: l, a => by show b :: (lzs l (a + 1)).map (·.2) = b :: l; rw [lzs_snd l]
/-- A box into which a Made is laid. -/
theorem newMd (w : World) (B : Nat) (iv lv tv : Value) : ∃ wz w2, w.alloc (.cells #[.pointer none, .slice none 0 0, .slice none 0 0, .slice none 0 0] 28) = wz ∧
    (((wz.setCell ⟨w.heap.size, 0, none⟩ (.pointer (some ⟨B, 0, none⟩))).setCell ⟨w.heap.size, 1, none⟩ iv).setCell ⟨w.heap.size, 2, none⟩ lv).setCell ⟨w.heap.size, 3, none⟩ tv = w2 ∧
    McC w2 w.heap.size B iv lv tv ∧ Below w.heap.size w w2 ∧ MzC wz w.heap.size := by
  have k0 : MzC (w.alloc (.cells #[.pointer none, .slice none 0 0, .slice none 0 0, .slice none 0 0] 28)) w.heap.size := heap_new' _ _
  have b0 : Below w.heap.size w (w.alloc (.cells #[.pointer none, .slice none 0 0, .slice none 0 0, .slice none 0 0] 28)) := (Below.refl _ _).alloc (Nat.le_refl _) _
  refine ⟨_, _, rfl, rfl, ?_, (((b0.setCell (p := ⟨w.heap.size, 0, none⟩) (Nat.le_refl _) _).setCell (p := ⟨w.heap.size, 1, none⟩) (Nat.le_refl _) _).setCell (p := ⟨w.heap.size, 2, none⟩) (Nat.le_refl _) _).setCell (p := ⟨w.heap.size, 3, none⟩) (Nat.le_refl _) _, k0⟩
  unfold MzC at k0
  exact heap_set0 _ (heap_set0 _ (heap_set0 _ (heap_set0 _ k0)))
/-- A box into which a value is laid. -/
theorem newBx (w : World) (t : TypeId) (z v : Value) : ∃ wz w2, w.alloc (.cells #[z] t) = wz ∧ wz.setCell ⟨w.heap.size, 0, none⟩ v = w2 ∧ w2.heap[w.heap.size]? = some (.cells #[v] t (0, 0)) ∧ Below w.heap.size w w2 ∧ wz.cell? ⟨w.heap.size, 0, none⟩ = some z ∧ wz.frozen? ⟨w.heap.size, 0, none⟩ = false := by
  have k0 : (w.alloc (.cells #[z] t)).heap[w.heap.size]? = some (.cells #[z] t (0, 0)) := heap_new' _ _
  have b0 : Below w.heap.size w (w.alloc (.cells #[z] t)) := (Below.refl _ _).alloc (Nat.le_refl _) _
  generalize w.alloc (.cells #[z] t) = wz at k0 b0
  exact ⟨_, _, rfl, rfl, heap_set0 _ k0, b0.setCell (p := ⟨w.heap.size, 0, none⟩) (Nat.le_refl _) _, by simp [World.cell?, k0], by simp [World.frozen?, k0]⟩
set_option maxRecDepth 100000 in
set_option maxHeartbeats 8000000 in
theorem twice_any {W : World} {v : Value} {L : List Stp} (hL : RowStp W v L) (x : Int) {k : Nat} (hk : k ≤ 255) :
    Calls Try.prog 3 #[v, .int .i64 x, .int .u8 k] W fun e w' => e = .returned (.bool true) ∧ Below W.heap.size W w' := by
  have HF : ∀ f, Fence.wide.fn f := fun _ => trivial
  obtain ⟨W0, hW0⟩ : ∃ w, (W.alloc (.cells #[.int .u8 k] 5)).alloc (.cells #[.bool false] 4) = w := ⟨_, rfl⟩
  have n5 : W0.heap[W.heap.size]? = some (.cells #[.int .u8 k] 5 (0, 0)) := by rw [← hW0]; exact (Below.heap_alloc _ _ _ (by simp)).trans (heap_new' _ _)
  have n6 : W0.heap[W.heap.size + 1]? = some (.cells #[.bool false] 4 (0, 0)) := by
    rw [← hW0]; have := heap_new' (W.alloc (.cells #[.int .u8 k] 5)) (.cells #[.bool false] 4); rwa [World.size_alloc] at this
  have hb0 : Below W.heap.size W W0 := by rw [← hW0]; exact ((Below.refl _ W).alloc (Nat.le_refl _) _).alloc (by simp) _
  have HBD := Lib.hid (build14_any (hL.under hb0 (Nat.le_refl _)))
  obtain ⟨g6, hg6⟩ : ∃ y, W.heap.size + 1 = y := ⟨_, rfl⟩
  rw [hg6] at n6
  have HG6 : Hid (W.heap.size ≤ g6) := Lib.hid (by omega)
  have HN5 := Lib.hid n5; have HN6 := Lib.hid n6; have HB0 := Lib.hid hb0
  clear n5 n6 hb0 hL
  refine (callsIn_wide (n := 9)).1 ?_
  refine callsIn_of_wp_marks Try.func3 rfl trivial ?_ rfl
  simp only [Try.ntmps3, List.size_toArray, List.length_cons, List.length_nil, Nat.reduceAdd, Nat.reduceSub, Array.replicate_succ, Array.replicate_zero, List.push_toArray, List.append_toArray, List.nil_append, List.cons_append]
  gi_wp2_with fail
  first | refine callsIn_wide.2 (HBD.out.mono ?_) | refine ⟨(fun h => by cases h), callsIn_wide.2 (HBD.out.mono ?_)⟩ | refine ⟨trivial, (fun h => by cases h), callsIn_wide.2 (HBD.out.mono ?_)⟩
  rintro e w1 ⟨B, E, ids, T, iv, lv, tv, rfl, s1, hwd, hEl, hil, hI, hT, hS, hO, b1⟩
  obtain ⟨ia, il, ic, rfl⟩ : ∃ a l c, iv = .slice a l c := by obtain ⟨a, c, h⟩ := hI.len; exact ⟨a, _, c, h⟩
  obtain ⟨la, ll, lc, rfl⟩ : ∃ a l c, lv = .slice a l c := by obtain ⟨a, c, h⟩ := hT.len; exact ⟨a, _, c, h⟩
  obtain ⟨ta, tl', tc, rfl⟩ : ∃ a l c, tv = .slice a l c := by obtain ⟨a, c, h⟩ := hS.len; exact ⟨a, _, c, h⟩
  obtain ⟨wz2, w2, hz2, hs2, k7, b2, z7⟩ := newMd w1 B (.slice ia il ic) (.slice la ll lc) (.slice ta tl' tc)
  obtain ⟨g7, hg7⟩ : ∃ y, w1.heap.size = y := ⟨_, rfl⟩
  rw [hg7] at hs2 k7 z7
  obtain ⟨⟨p0, p1, p2, p3⟩, q0, q1, q2, q3⟩ := z7.cells
  have HLA := Lib.hid (last_any (B := B) (SlA.below hI b2) (SlA.below hT b2) (SlA.below hS b2) (hO.keep (KeepT.below b2)) hil)
  obtain ⟨c0, c1, c2, c3⟩ := k7.cells
  have HB2 := Lib.hid (Below.after b1 b2)
  have HN5b := Lib.hid (below_block HB2.out HN5.out); have HN6b := Lib.hid (below_block HB2.out HN6.out)
  have HM2 := Lib.hid k7; have HS2 := Lib.hid (s1.below b2); have HW := Lib.hid hwd.wf
  have HEL := Lib.hid (show E.length ≤ 1048576 by omega)
  clear b1 b2 s1 hwd hEl hil hI hT hS hO k7 z7 HBD HN5 HN6
  gi_wp2_with fail
  first | refine callsIn_wide.2 (HLA.out.mono ?_) | refine ⟨(fun h => by cases h), callsIn_wide.2 (HLA.out.mono ?_)⟩ | refine ⟨trivial, (fun h => by cases h), callsIn_wide.2 (HLA.out.mono ?_)⟩
  rintro e w3 ⟨id, ⟨ua, ul, uc⟩, rfl, hid, hbal, hul, hby, b3⟩
  obtain ⟨kn, hkn⟩ : ∃ y, decide ((txt E id).length ≤ 4096) = y := ⟨_, rfl⟩
  rw [hkn]
  obtain ⟨tl, htl⟩ : ∃ y, (txt E id).length = y := ⟨_, rfl⟩
  rw [htl] at hkn hul hby ⊢
  obtain ⟨wz4, w4, hz4, hs4, k11, b4, z11, f11⟩ := newBx w3 32 (.slice none 0 0) (.slice ua ul uc)
  obtain ⟨g11, hg11⟩ : ∃ y, w3.heap.size = y := ⟨_, rfl⟩
  rw [hg11] at hs4 k11 z11 f11
  obtain ⟨wa, hwa⟩ : ∃ y, w4 = y := ⟨_, rfl⟩
  have HAW := Lib.hid (awake17_any w4)
  have HB4 := Lib.hid (Below.after b3 b4)
  have HN5c := Lib.hid (below_block HB4.out HN5b.out); have HN6c := Lib.hid (below_block HB4.out HN6b.out)
  have HM4 := Lib.hid (show McC w4 g7 B (.slice ia il ic) (.slice la ll lc) (.slice ta tl' tc) from below_block HB4.out HM2.out)
  have HS4 := Lib.hid (HS2.out.below HB4.out)
  have HK11 := Lib.hid k11
  have HBY : Hid (tl ≤ 4096 → Bys W0.heap.size w4 (.slice ua ul uc) (txt E id)) := Lib.hid (fun h => SlA.below (hby h) b4)
  have HUL := Lib.hid hul; have HKN := Lib.hid hkn; have HTL := Lib.hid htl; have HID := Lib.hid hid
  clear b3 b4 k11 hul hby hkn htl hid hbal hwa HLA HN5b HN6b HM2 HS2
  gi_wp2_with fail
  first | refine callsIn_wide.2 (HAW.out.mono ?_) | refine ⟨(fun h => by cases h), callsIn_wide.2 (HAW.out.mono ?_)⟩ | refine ⟨trivial, (fun h => by cases h), callsIn_wide.2 (HAW.out.mono ?_)⟩
  rintro e w5 ⟨rfl, b5⟩
  have HB5 := Lib.hid (Below.after HB4.out b5)
  have HN5d := Lib.hid (below_block b5 HN5c.out); have HN6d := Lib.hid (below_block b5 HN6c.out)
  have HM5 := Lib.hid (show McC w5 g7 B (.slice ia il ic) (.slice la ll lc) (.slice ta tl' tc) from below_block b5 HM4.out)
  have HS5 := Lib.hid (HS4.out.below b5)
  have HK11b := Lib.hid (below_block b5 HK11.out)
  have HBYb : Hid (tl ≤ 4096 → Bys W0.heap.size w5 (.slice ua ul uc) (txt E id)) := Lib.hid (fun h => SlA.below (HBY.out h) b5)
  have HBW : Hid (Below W.heap.size W w5) := Lib.hid (Below.after HB0.out (Below.after HB2.out HB5.out))
  have c6 : w5.cell? ⟨g6, 0, none⟩ = some (.bool false) := by have := HN6d.out; simp [World.cell?, this]
  have f6 : w5.frozen? ⟨g6, 0, none⟩ = false := by have := HN6d.out; simp [World.frozen?, this]
  have cx : w5.cell? ⟨g11, 0, none⟩ = some (.slice ua ul uc) := by have := HK11b.out; simp [World.cell?, this]
  obtain ⟨wt, hwt⟩ : ∃ y, w5.setCell ⟨g6, 0, none⟩ (.bool true) = y := ⟨_, rfl⟩
  have ct : wt.cell? ⟨g6, 0, none⟩ = some (.bool true) := by
    have := heap_set0 (i := 0) (.bool true) HN6d.out
    rw [← hwt]; simp [World.cell?, this]
  have HBT : Hid (Below W.heap.size W wt) := Lib.hid (by rw [← hwt]; exact HBW.out.setCell (p := ⟨g6, 0, none⟩) HG6.out _)
  clear b5 HAW HN5c HN6c HM4 HS4 HK11 HBY HB4 HB5 hz2 hs2 p0 p1 p2 p3 q0 q1 q2 q3 c0 c1 c2 c3 hz4 hs4 z11 f11 hW0
  cases kn with
  | false =>
    gi_wp2_with fail
    refine ⟨.bool true, ?_, rfl, HBT.out⟩
    simp [results, Try.f3, go_sem, ct]
  | true =>
    by_cases h6 : 600 < ul
    · have h6i : (600 : Int) < (ul : Int) := by omega
      gi_wp2_with fail
      refine ⟨.bool true, ?_, rfl, HBT.out⟩
      simp [results, Try.f3, go_sem, ct]
    · have h6i : ¬ (600 : Int) < (ul : Int) := by omega
      have h4 : tl ≤ 4096 := of_decide_eq_true HKN.out
      have hue : ul = tl := by rcases HUL.out with h | h <;> omega
      subst hue
      have HBYc := Lib.hid (HBYb.out h4)
      have HOF := Lib.hid (offset_any w5 x (n := ul) (by omega))
      clear ct HBT hwt c6 f6
      gi_wp2_with fail
      first | refine callsIn_wide.2 (HOF.out.mono ?_) | refine ⟨(fun h => by cases h), callsIn_wide.2 (HOF.out.mono ?_)⟩ | refine ⟨trivial, (fun h => by cases h), callsIn_wide.2 (HOF.out.mono ?_)⟩
      rintro e w6 ⟨fr, rfl, hfr, rfl⟩
      have HFR := Lib.hid hfr
      obtain ⟨c0, -, -, -⟩ := HM5.out.cells
      have HLS := Lib.hid (letters_seq HS5.out HW.out HEL.out HID.out (frm := fr) (by rw [HTL.out]; exact hfr))
      clear hfr HOF cx
      gi_wp2_with fail
      first | refine callsIn_wide.2 (HLS.out.mono ?_) | refine ⟨(fun h => by cases h), callsIn_wide.2 (HLS.out.mono ?_)⟩ | refine ⟨trivial, (fun h => by cases h), callsIn_wide.2 (HLS.out.mono ?_)⟩
      rintro e w7 ⟨vq, rfl, ⟨gf, lb, rfl, hen, hst⟩, b7⟩
      have HEN := Lib.hid hen; have HST := Lib.hid hst
      have HN5e := Lib.hid (below_block b7 HN5d.out); have HN6e := Lib.hid (below_block b7 HN6d.out)
      have HK11c := Lib.hid (below_block b7 HK11b.out)
      have HBYd := Lib.hid (SlA.below HBYc.out b7)
      have HBX := Lib.hid (HBW.out.trans (b7.mono HBW.out.size))
      obtain ⟨wz8, w8, hz8, hs8, k14, b8, z14, f14⟩ := newBx w7 3 (.int .i64 0) (.int .i64 0)
      obtain ⟨g14, hg14⟩ : ∃ y, w7.heap.size = y := ⟨_, rfl⟩
      rw [hg14] at hs8 k14 z14 f14
      have HB8 := Lib.hid b8; have HK14 := Lib.hid k14; have HG14 := Lib.hid hg14
      clear hen hst b7 b8 k14 HLS c0 HM5 HS5 HN5d HN6d HK11b HBYb HBYc HBW
      gi_wp2_with fail
      clear hz8 hs8 z14 f14 hg14
      refine wpIn_rangeFunc_T rfl (by omega) (gf := gf) (lb := lb) rfl trivial HEN.out (HST.out 8) KpI.trans (fun X l o o' hl ho hc _ => KpI.put X l o o' (Nat.le_trans HB8.out.size hl) ho hc) HB8.out (fun _ => rfl)
        (fun pre Y => Y.heap[g14]? = some (.cells #[.int .i64 pre.length] 3 (0, 0)) ∧ Below w7.heap.size w7 Y)
        (fun c pre Y => c = .exit 0 ∧ Below w7.heap.size w7 Y)
        (fun s A C row hs hg hr => ⟨own_cells hg hr hs.1, own_below hg hr (Nat.le_refl _) HB8.out.size hs.2⟩)
        (fun c s A C row hs hg hr => ⟨hs.1, own_below hg hr (Nat.le_refl _) HB8.out.size hs.2⟩)
        (fun s A C hs h => ⟨h.cells _ (by decide) _ _ _ hs.1, hs.2.trans (h.below.mono HB8.out.size)⟩)
        (fun c s A C hs h => ⟨hs.1, hs.2.trans (h.below.mono HB8.out.size)⟩)
        ⟨HK14.out, HB8.out⟩ ?round ?done ?stop
      case round =>
        intro l pre x Y Yb K hI hlen hK
        have HF : ∀ f, (Fence.wide.inRound l).fn f := fun _ => trivial
        have HK := Lib.hid hK
        clear hK
        gi_wp2_with fail
        refine HK.out _ ?_
        clear HK
        obtain ⟨h1, h2⟩ := hI
        have hpl : pre.length ≤ 4096 := by
          rw [lzs_length, List.length_drop] at hlen
          have := HTL.out; omega
        have k5 := below_block h2 HN5e.out
        have c5 : Yb.cell? ⟨W.heap.size, 0, none⟩ = some (.int .u8 k) := by simp [World.cell?, k5]
        have c14 : Yb.cell? ⟨g14, 0, none⟩ = some (.int .i64 pre.length) := by simp [World.cell?, h1]
        have f14 : Yb.frozen? ⟨g14, 0, none⟩ = false := by simp [World.frozen?, h1]
        have hkw : IntKind.i64.wrap (k : Int) = (k : Int) := by rw [IntKind.wrap_i64]; omega
        by_cases hpk : pre.length = k
        · have hb : ((pre.length : Int) == (k : Int)) = true := by simp [hpk]
          have H2 := Lib.hid h2
          clear h1 h2 k5 hlen
          gi_wp2_with fail
          exact ⟨KeepsOthers.refl _, rfl, H2.out⟩
        · have hb : ((pre.length : Int) == (k : Int)) = false := by simp; omega
          obtain ⟨Y2, hY2⟩ : ∃ y, Yb.setCell ⟨g14, 0, none⟩ (.int .i64 ((pre.length : Int) + 1)) = y := ⟨_, rfl⟩
          have hpw : IntKind.i64.wrap ((pre.length : Int) + 1) = (pre.length : Int) + 1 := by rw [IntKind.wrap_i64]; omega
          have k2 : Y2.heap[g14]? = some (.cells #[.int .i64 ((pre ++ [x]).length : Nat)] 3 (0, 0)) := by
            rw [← hY2, List.length_append, List.length_singleton]; exact heap_set0 _ h1
          have hko : KeepsOthers Yb Y2 := by rw [← hY2]; exact keepsOthers_setCell (KeepsOthers.refl _) _ _
          have hkt : ∀ t, t ≠ 3 → KeepT t Yb Y2 := fun t ht => by rw [← hY2]; exact KeepT.setCell (a := ⟨g14, 0, none⟩) h1 (Ne.symm ht)
          have hbl : Below w7.heap.size w7 Y2 := by rw [← hY2]; exact h2.setCell (p := ⟨g14, 0, none⟩) (Nat.le_of_eq HG14.out) _
          have HFIN := Lib.hid (And.intro k2 (And.intro hko (And.intro hkt hbl)))
          clear k2 hko hkt hbl h1 h2 k5 hlen
          gi_wp2_with fail
          obtain ⟨k2, hko, hkt, hbl⟩ := HFIN.out
          exact ⟨hko, KpI.of_others (fun t ht => hkt t (by intro e; subst e; revert ht; decide)) hko, k2, hbl⟩
      case' done =>
        rintro D xs Y hD - ⟨-, h2⟩ hDc
      case' stop =>
        rintro D c pre Y hD - ⟨rfl, h2⟩ hDc
      all_goals
        have HMK : Hid (Marks w7.heap.size Y [{ target := .collected D, args := #[] }]) := Lib.hid ⟨[D], rfl, List.pairwise_singleton _ _, fun D' h => by rw [List.mem_singleton.1 h]; exact ⟨Nat.le_trans HB8.out.size hD, hDc⟩⟩
        have H9 := Lib.hid h2
        obtain ⟨Y1, hY1⟩ : ∃ y, Y.alloc (.cells #[.slice none 0 0] 32) = y := ⟨_, rfl⟩
        have k15 : Y1.heap[Y.heap.size]? = some (.cells #[.slice none 0 0] 32 (0, 0)) := by rw [← hY1]; exact heap_new' _ _
        have b15 : Below Y.heap.size Y Y1 := by rw [← hY1]; exact (Below.refl _ _).alloc (Nat.le_refl _) _
        obtain ⟨g15, hg15⟩ : ∃ y, Y.heap.size = y := ⟨_, rfl⟩
        have HG15 := Lib.hid hg15; have HK15 : Hid (Y1.heap[g15]? = some (.cells #[.slice none 0 0] 32 (0, 0))) := Lib.hid (by rw [← hg15]; exact k15); have HB15 := Lib.hid b15
        have HB7 := Lib.hid (h2.trans (b15.mono h2.size))
        have HSZ : Hid (Y.heap.size ≤ Y1.heap.size) := Lib.hid b15.size
        clear h2 hDc k15 b15 hD
        gi_wp2_with fail
        clear hY1 hg15
        refine wpIn_rangeFunc_T (α := Nat × Nat) rfl (by omega) (gf := gf) (lb := lb) rfl trivial HEN.out (HST.out 8) KpI.trans (fun X l o o' hl ho hc _ => KpI.put X l o o' (Nat.le_trans HB7.out.size hl) ho hc) HB7.out (fun _ => rfl)
          (fun (pre : List (Nat × Nat)) Z => ∃ v2, Z.heap[g15]? = some (.cells #[v2] 32 (0, 0)) ∧ Bys Y.heap.size Z v2 (pre.map fun q : Nat × Nat => q.2) ∧ Below Y.heap.size Y Z)
          (fun _ _ _ => False)
          (fun s A C row ⟨v2, h1, h2, h3⟩ hg hr => ⟨v2, own_cells hg hr h1, own_SlA hg hr h2, own_below hg hr (Nat.le_refl _) HSZ.out h3⟩)
          (fun c s A C row hs => hs.elim)
          (fun s A C ⟨v2, h1, h2, h3⟩ h => ⟨v2, h.cells _ (by decide) _ _ _ h1, SlA.keep h2 (h.cells _ (by decide)), h3.trans (h.below.mono HSZ.out)⟩)
          (fun c s A C hs _ => hs.elim)
          ⟨.slice none 0 0, HK15.out, SlA.nil _ _ _ _ _, HB15.out⟩ ?_ ?_ (fun D2 c pre Z hD2 hp hx _ => hx.elim)
        · intro l pre x Z Zb K hI hlen hK
          have HF : ∀ f, (Fence.wide.inRound l).fn f := fun _ => trivial
          have HK := Lib.hid hK
          clear hK
          gi_wp2_with fail
          refine HK.out _ ?_
          clear HK
          obtain ⟨v2, h1, h2, h3⟩ := hI
          obtain ⟨n, hn⟩ : ∃ y, (pre.map fun q : Nat × Nat => q.2).length = y := ⟨_, rfl⟩
          obtain ⟨va, vc, rfl⟩ : ∃ a c, v2 = .slice a n c := by obtain ⟨a, c, h⟩ := h2.len; exact ⟨a, c, by rw [h, hn]⟩
          have hnl : n < ul := by
            rw [lzs_length, List.length_drop] at hlen
            rw [List.length_map] at hn
            have := HTL.out; omega
          have hnl2 : ¬ (ul : Int) < (n : Int) := by omega
          have hnl3 : ¬ ul < n := by omega
          have k11 := below_block h3 (below_block H9.out HK11c.out)
          have c11 : Zb.cell? ⟨g11, 0, none⟩ = some (.slice ua ul uc) := by simp [World.cell?, k11]
          have c15 : Zb.cell? ⟨g15, 0, none⟩ = some (.slice va n vc) := by simp [World.cell?, h1]
          have HZB : Hid (Y.heap.size ≤ Zb.heap.size) := Lib.hid h3.size
          have H1 := Lib.hid h1; have H2 := Lib.hid h2; have H3 := Lib.hid h3; have HN := Lib.hid hn
          have hbt : (n + 1) * 1 ≤ 140737488355328 := by omega
          clear h1 h2 h3 hn hlen k11
          gi_wp2_with (
            gi_at_builtin
            refine wp_app1In (w0 := Zb) (enc := encB) (v := .slice va n vc) elemB encB_len rfl _ _ rfl rfl H2.out x.2 rfl rfl (encB_one _) (by rw [HN.out]; exact hbt) HZB.out ?_
            intro v8 w8 hS8 hg8 hb8
            obtain ⟨a8, c8, rfl⟩ : ∃ a c, v8 = .slice a (n + 1) c := by obtain ⟨a, c, h⟩ := hS8.len; exact ⟨a, c, by rw [h, List.length_append, HN.out]; rfl⟩
            have k15 := app_other H2.out hg8 H1.out (by decide)
            have hko8 := app_keepsOthers H2.out hg8
            have hkt8 : ∀ t, t ≠ 5 → KeepT t Zb w8 := fun t ht k cs fz h => app_other H2.out hg8 h ht
            have c15b : w8.cell? ⟨g15, 0, none⟩ = some (.slice va n vc) := by simp [World.cell?, k15]
            have f15b : w8.frozen? ⟨g15, 0, none⟩ = false := by simp [World.frozen?, k15]
            obtain ⟨Z2, hZ2⟩ : ∃ y, w8.setCell ⟨g15, 0, none⟩ (.slice a8 (n + 1) c8) = y := ⟨_, rfl⟩
            have HFIN : Hid ((∃ v2, Z2.heap[g15]? = some (.cells #[v2] 32 (0, 0)) ∧ Bys Y.heap.size Z2 v2 ((pre ++ [x]).map fun q : Nat × Nat => q.2) ∧ Below Y.heap.size Y Z2) ∧ KeepsOthers Zb Z2 ∧ (∀ t, t ≠ 5 → t ≠ 32 → KeepT t Zb Z2)) := Lib.hid (by
              rw [← hZ2]
              refine ⟨⟨_, heap_set0 _ k15, ?_, (H3.out.trans hb8).setCell (p := ⟨g15, 0, none⟩) (Nat.le_of_eq HG15.out) _⟩, keepsOthers_setCell hko8 _ _, fun t h1 h2 => (hkt8 t h1).trans (KeepT.setCell (a := ⟨g15, 0, none⟩) k15 (Ne.symm h2))⟩
              rw [List.map_append, List.map_singleton]
              exact SlA.setCell (a := ⟨g15, 0, none⟩) hS8 _ k15 (by decide))
            clear hS8 hg8 hb8 k15 hko8 hkt8)
          obtain ⟨hI, hko, hkt⟩ := HFIN.out
          exact ⟨hko, KpI.of_others (fun t ht => hkt t (by intro e; subst e; revert ht; decide) (by intro e; subst e; revert ht; decide)) hko, hI⟩
        · rintro D2 xs Z hD2 rfl ⟨v2, h1, h2, h3⟩ hDc2
          rw [lzs_snd] at h2
          have HMK2 := Lib.hid (Marks.cons (HMK.out.below h3) (fun D' hD' => Nat.lt_of_lt_of_le (HMK.out.lt hD') (Nat.le_trans HSZ.out hD2)) (Nat.le_trans HB7.out.size hD2) hDc2)
          have ht := SlA.below (SlA.below HBYd.out H9.out) h3
          have hcap : ul ≤ uc := by
            rcases ht.shape with ⟨h1, h2⟩ | ⟨g2, c2, h1, h2, h3⟩
            · cases h1; simp
            · simp only [Value.slice.injEq] at h1; obtain ⟨-, e1, rfl⟩ := h1; rw [e1]; exact h2
          obtain ⟨A', m, c', hsl, hrow⟩ := bys_drop HTL.out HFR.out ua uc hcap
          have hr1 := Bys.row h2
          have hr2 := hrow Z _ ht
          obtain ⟨n, hn⟩ : ∃ y, ((txt E id).drop fr).length = y := ⟨_, rfl⟩
          obtain ⟨va, vc, rfl⟩ : ∃ a c, v2 = .slice a n c := by obtain ⟨a, c, h⟩ := h2.len; exact ⟨a, c, by rw [h, hn]⟩
          have HEQ : Hid (∀ w, Below Z.heap.size Z w → Calls Try.prog 17 #[.slice va n vc, .slice A' m c'] w fun e w' => e = .returned (.bool true) ∧ w' = w) := Lib.hid (fun w hw => bytes2_any (row_below hr1 hw) (row_below hr2 hw))
          have k11 := below_block h3 (below_block H9.out HK11c.out)
          have c11 : ∀ w, Below Z.heap.size Z w → w.cell? ⟨g11, 0, none⟩ = some (.slice ua ul uc) := fun w hw => by have := below_block hw k11; simp [World.cell?, this]
          have c15 : ∀ w, Below Z.heap.size Z w → w.cell? ⟨g15, 0, none⟩ = some (.slice va n vc) := fun w hw => by have := below_block hw h1; simp [World.cell?, this]
          have HN6f := Lib.hid (below_block h3 (below_block H9.out HN6e.out))
          have HB9 : Hid (Below W.heap.size W Z) := Lib.hid (HBX.out.trans ((H9.out.mono HBX.out.size).trans (h3.mono (Nat.le_trans HBX.out.size H9.out.size))))
          have HDZ : Hid (w7.heap.size ≤ Z.heap.size) := Lib.hid (Nat.le_trans H9.out.size h3.size)
          clear h1 h2 h3 hDc2 ht hrow hr1 hr2 hn k11 hcap hD2
          gi_wp2_with fail
          refine wpIn_region_anyNP (Below Z.heap.size Z) (by kernel_rfl) ?_
          obtain ⟨Zd, hZd⟩ : ∃ y, Z.drew = y := ⟨_, rfl⟩
          have B0 : Below Z.heap.size Z Zd := by rw [← hZd]; exact (Below.refl _ _).drew
          rw [hZd]
          clear hZd
          refine AnyH.take (i := 0) (d := some 72) (v := ?_) (by kernel_rfl) rfl rfl HF (fun _ _ _ h => h) (.inl ⟨by rfl, ?_⟩) (by first | assumption | rfl) ?_
          rotate_left
          · intro w hS; try subst hS
            go_simp; try with_reducible rfl
          try simp only [Act.put, List.setIfInBounds_toArray, List.set_cons_zero, List.set_cons_succ]
          refine AnyH.take (i := 1) (d := some 73) (v := ?_) (by kernel_rfl) rfl rfl HF (fun _ _ _ h => h) (.inl ⟨by rfl, ?_⟩) (by first | assumption | rfl) ?_
          rotate_left
          · intro w hS; try subst hS
            go_simp; try with_reducible rfl
          try simp only [Act.put, List.setIfInBounds_toArray, List.set_cons_zero, List.set_cons_succ]
          refine AnyH.take (i := 2) (d := some 74) (v := ?_) (by kernel_rfl) rfl rfl HF (fun _ _ _ h => h) (.inl ⟨by rfl, ?_⟩) (by first | assumption | rfl) ?_
          rotate_left
          · intro w hS; try subst hS
            go_simp; try with_reducible rfl
          try simp only [Act.put, List.setIfInBounds_toArray, List.set_cons_zero, List.set_cons_succ]
          refine AnyH.take (i := 3) (d := some 75) (v := ?_) (by kernel_rfl) rfl rfl HF (fun _ _ _ h => h) (.inl ⟨by rfl, ?_⟩) (by first | assumption | rfl) ?_
          rotate_left
          · intro w hS; try subst hS
            go_simp; try with_reducible rfl
          try simp only [Act.put, List.setIfInBounds_toArray, List.set_cons_zero, List.set_cons_succ]
          refine AnyH.one (i := 4) (by kernel_rfl) (by kernel_rfl) rfl HF (by rfl) (fun K hK => ?_)
          go_simp
          first | ((with_reducible refine And.intro ?hdep ?_); (case hdep => first | rfl | (intro h; cases h))) | skip
          first | refine callsIn_wide.2 ((HEQ.out _ B0).mono ?_) | refine ⟨(fun h => by cases h), callsIn_wide.2 ((HEQ.out _ B0).mono ?_)⟩ | refine ⟨trivial, (fun h => by cases h), callsIn_wide.2 ((HEQ.out _ B0).mono ?_)⟩
          rintro e w9 ⟨rfl, h9⟩
          rw [h9]
          clear h9
          refine hK _ _ B0 ?_
          clear hK K
          try simp only [Act.put, List.setIfInBounds_toArray, List.set_cons_zero, List.set_cons_succ]
          refine AnyH.tailL 5 (by kernel_rfl) ?_
          simp only [List.drop_succ_cons, List.drop_zero]
          have k6 := below_block B0 HN6f.out
          have c6 : Zd.cell? ⟨g6, 0, none⟩ = some (.bool false) := by simp [World.cell?, k6]
          have f6 : Zd.frozen? ⟨g6, 0, none⟩ = false := by simp [World.frozen?, k6]
          obtain ⟨Ze, hZe⟩ : ∃ y, Zd.setCell ⟨g6, 0, none⟩ (.bool true) = y := ⟨_, rfl⟩
          have HC6 : Hid (Ze.heap[g6]? = some (.cells #[.bool true] 4 (0, 0))) := Lib.hid (by rw [← hZe]; exact heap_set0 _ k6)
          have HBF : Hid (Below W.heap.size W Ze) := Lib.hid (by rw [← hZe]; exact (HB9.out.trans (B0.mono HB9.out.size)).setCell (p := ⟨g6, 0, none⟩) HG6.out _)
          have HMF := Lib.hid ((HMK2.out.below B0).keep (by rw [← hZe]; exact KeepsOthers.setCell Zd ⟨g6, 0, none⟩ (.bool true) : KeepsOthers Zd Ze))
          have HZS : Hid (w7.heap.size ≤ Ze.heap.size) := Lib.hid (by rw [← hZe]; exact Nat.le_trans HDZ.out (by simpa using B0.size))
          have HG67 : Hid (g6 < w7.heap.size) := Lib.hid (Array.getElem?_eq_some_iff.1 HN6e.out).1
          clear k6 c11 c15 B0
          gi_wp2_with fail
          refine NP.normal ?_
          gi_wp2_with fail
          refine HMF.out.leaves HZS.out fun w' hb' => ?_
          have hc7 := (hb'.block g6 HG67.out).trans HC6.out
          have hc8 : w'.cell? ⟨g6, 0, none⟩ = some (.bool true) := by simp [World.cell?, hc7]
          refine ⟨.bool true, ?_, rfl, HBF.out.trans (hb'.mono HBX.out.size)⟩
          simp [results, Try.f3, go_sem, hc8]
end M
end Go.Proofs.Ytpjcfepngjpfbaa
