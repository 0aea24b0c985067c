/- WalkCovers: the walk (printed by walk/mkcov.py). -/
import Derived.Test.YtpjcfepngjpfbaaAws
import Derived.Test.YtpjcfepngjpfbaaMds
import Derived.Test.YtpjcfepngjpfbaaBld14
import Derived.Test.YtpjcfepngjpfbaaPcSeq
import Derived.Test.YtpjcfepngjpfbaaAw
import Derived.Test.YtpjcfepngjpfbaaWtA
import Derived.Test.YtpjcfepngjpfbaaAcc
import Derived.Test.YtpjcfepngjpfbaaFloatC
set_option linter.unusedVariables false
set_option linter.unusedSimpArgs false
namespace Go.Proofs.Ytpjcfepngjpfbaa
open Go.RowKit Go.Lib
namespace M
attribute [local go_sem] Oper.semAt_some
theorem StJ.setW {ds : List Nat} {ls : List (Nat × Array Value × TypeId)} {W : World} {n0 M B : Nat} {E : List En} {A : World} (h : StJ ds ls W n0 M B E A) {g : Nat} {u0 : Wt} (hk : WtC A g u0) (ha : ∀ p ∈ ls, p.1 ≠ g) (hz : W.heap.size ≤ g) (u : Wt) : StJ ds ls W n0 M B E (setW A g u) := by
  unfold WtC at hk
  have k1 := heap_set0 (i := 0) (.int .i64 u.len) hk
  have k2 := heap_set0 (i := 1) (.int .i64 u.lines) k1
  have k3 := heap_set0 (i := 2) (.int .i64 u.head) k2
  have k4 := heap_set0 (i := 3) (.int .i64 u.tail) k3
  have k5 := heap_set0 (i := 4) (.int .u64 u.d.v) k4
  exact (((((h.set hk (by decide) (by decide) ha hz _).set k1 (by decide) (by decide) ha hz _).set k2 (by decide) (by decide) ha hz _).set k3 (by decide) (by decide) ha hz _).set k4 (by decide) (by decide) ha hz _).set k5 (by decide) (by decide) ha hz _
theorem KeepT.setW {t : TypeId} {A : World} {g : Nat} {u0 : Wt} (hk : WtC A g u0) (ht : 88 ≠ t) (u : Wt) : KeepT t A (setW A g u) := by
  unfold WtC at hk
  have k1 := heap_set0 (i := 0) (.int .i64 u.len) hk
  have k2 := heap_set0 (i := 1) (.int .i64 u.lines) k1
  have k3 := heap_set0 (i := 2) (.int .i64 u.head) k2
  have k4 := heap_set0 (i := 3) (.int .i64 u.tail) k3
  have k5 := heap_set0 (i := 4) (.int .u64 u.d.v) k4
  exact (((((KeepT.setCell (a := ⟨g, 0, none⟩) hk ht).trans (KeepT.setCell (a := ⟨g, 1, none⟩) k1 ht)).trans (KeepT.setCell (a := ⟨g, 2, none⟩) k2 ht)).trans (KeepT.setCell (a := ⟨g, 3, none⟩) k3 ht)).trans (KeepT.setCell (a := ⟨g, 4, none⟩) k4 ht)).trans (KeepT.setCell (a := ⟨g, 5, none⟩) k5 ht)
theorem keepsOthers_setW {A C : World} (h : KeepsOthers A C) (g : Nat) (u : Wt) : KeepsOthers A (setW C g u) :=
  keepsOthers_setCell (keepsOthers_setCell (keepsOthers_setCell (keepsOthers_setCell (keepsOthers_setCell (keepsOthers_setCell h _ _) _ _) _ _) _ _) _ _) _ _
/-- A box of a number. -/
def BoxI (n0 : Nat) (v : Value) (w : World) : Prop := ∃ B, v = .pointer (some ⟨B, 0, none⟩) ∧ n0 ≤ B ∧ w.heap[B]? = some (.cells #[.int .i64 0] 3 (0, 0))
def PPv (n0 : Nat) (v1 : Value) (j : Nat) (v : Value) (w : World) : Prop := match j with
  | 0 => v = v1
  | 2 => BoxW n0 v w
  | 3 => BoxI n0 v w
  | 4 => BoxI n0 v w
  | _ => True
theorem PPv.mono {n0 : Nat} {v1 : Value} (j : Nat) (v : Value) (w w' : World) (h : PPv n0 v1 j v w) (hb : Below w.heap.size w w') : PPv n0 v1 j v w' := by
  unfold PPv at *
  split
  · exact h
  · obtain ⟨B, h1, h2, h3⟩ := h; exact ⟨B, h1, h2, below_block hb h3⟩
  · obtain ⟨B, h1, h2, h3⟩ := h; exact ⟨B, h1, h2, below_block hb h3⟩
  · obtain ⟨B, h1, h2, h3⟩ := h; exact ⟨B, h1, h2, below_block hb h3⟩
  · trivial
set_option maxRecDepth 100000 in
set_option maxHeartbeats 16000000 in
theorem covers_any {W : World} {v : Value} {L : List Stp} (hL : RowStp W v L) (x y : Int) :
    Calls Try.prog 11 #[v, .int .i64 x, .int .i64 y] W fun e w' => e = .returned (.bool true) ∧ Below W.heap.size W w' := by
  have HF : ∀ f, Fence.wide.fn f := fun _ => trivial
  obtain ⟨Wa, hWa⟩ : ∃ w, W.alloc (.cells #[.int .i64 x] 3) = w := ⟨_, rfl⟩
  obtain ⟨Wb, hWb⟩ : ∃ w, Wa.alloc (.cells #[.int .i64 y] 3) = w := ⟨_, rfl⟩
  obtain ⟨W0, hW0⟩ : ∃ w, Wb.alloc (.cells #[.bool false] 4) = w := ⟨_, rfl⟩
  have ba : Below W.heap.size W Wa := by rw [← hWa]; exact (Below.refl _ W).alloc (Nat.le_refl _) _
  have bb : Below Wa.heap.size Wa Wb := by rw [← hWb]; exact (Below.refl _ Wa).alloc (Nat.le_refl _) _
  have bc : Below Wb.heap.size Wb W0 := by rw [← hW0]; exact (Below.refl _ Wb).alloc (Nat.le_refl _) _
  have sa : Wa.heap.size = W.heap.size + 1 := by rw [← hWa]; simp
  have sb : Wb.heap.size = W.heap.size + 2 := by rw [← hWb]; simp [sa]
  have n4 : W0.heap[W.heap.size]? = some (.cells #[.int .i64 x] 3 (0, 0)) := below_block bc (below_block bb (by rw [← hWa]; exact heap_new' _ _))
  have n5 : W0.heap[W.heap.size + 1]? = some (.cells #[.int .i64 y] 3 (0, 0)) := below_block bc (by rw [← hWb, ← sa]; exact heap_new' _ _)
  have n6 : W0.heap[W.heap.size + 2]? = some (.cells #[.bool false] 4 (0, 0)) := by rw [← hW0, ← sb]; exact heap_new' _ _
  have hb0 : Below W.heap.size W W0 := Below.after (Below.after ba bb) bc
  have HBD := Lib.hid (build14_any (hL.under hb0 (Nat.le_refl _)))
  obtain ⟨g4, hg4⟩ : ∃ y, W.heap.size = y := ⟨_, rfl⟩
  obtain ⟨g5, hg5⟩ : ∃ y, W.heap.size + 1 = y := ⟨_, rfl⟩
  obtain ⟨g6, hg6⟩ : ∃ y, W.heap.size + 2 = y := ⟨_, rfl⟩
  have HGS : Hid (g5 = g4 + 1 ∧ g6 = g4 + 2) := Lib.hid (by omega)
  rw [hg4] at n4
  rw [hg5] at n5
  rw [hg6] at n6
  have HG4 : Hid (W.heap.size = g4) := Lib.hid hg4
  have HN4 := Lib.hid n4; have HN5 := Lib.hid n5; have HN6 := Lib.hid n6; have HB0 := Lib.hid hb0
  rw [hg4] at sa sb
  rw [hg4] at hg5 hg6
  clear n4 n5 n6 hb0 hL ba bb bc
  refine (callsIn_wide (n := 9)).1 ?_
  refine callsIn_of_wp_marks Try.func11 rfl trivial ?_ rfl
  simp only [Try.ntmps11, List.size_toArray, List.length_cons, List.length_nil, Nat.reduceAdd, Nat.reduceSub, Array.replicate_succ, Array.replicate_zero, List.push_toArray, List.append_toArray, List.nil_append, List.cons_append]
  gi_wp2_with fail
  first | refine callsIn_wide.2 (HBD.out.mono ?_) | refine ⟨(fun h => by cases h), callsIn_wide.2 (HBD.out.mono ?_)⟩ | refine ⟨trivial, (fun h => by cases h), callsIn_wide.2 (HBD.out.mono ?_)⟩
  rintro e w1 ⟨B, E, ids, T, iv, lv, tv, rfl, s1, hwd, hEl, hil, hI, hT, hS, hO, b1⟩
  obtain ⟨ia, il, ic, rfl⟩ : ∃ a l c, iv = .slice a l c := by obtain ⟨a, c, h⟩ := hI.len; exact ⟨a, _, c, h⟩
  obtain ⟨la, ll, lc, rfl⟩ : ∃ a l c, lv = .slice a l c := by obtain ⟨a, c, h⟩ := hT.len; exact ⟨a, _, c, h⟩
  obtain ⟨ta, tl', tc, rfl⟩ : ∃ a l c, tv = .slice a l c := by obtain ⟨a, c, h⟩ := hS.len; exact ⟨a, _, c, h⟩
  obtain ⟨wz2, w2, hz2, hs2, k7, b2, z7⟩ := newMd w1 B (.slice ia il ic) (.slice la ll lc) (.slice ta tl' tc)
  obtain ⟨g7, hg7⟩ : ∃ y, w1.heap.size = y := ⟨_, rfl⟩
  rw [hg7] at hs2 k7 z7
  obtain ⟨⟨p0, p1, p2, p3⟩, q0, q1, q2, q3⟩ := z7.cells
  have HLA := Lib.hid (last_any (B := B) (SlA.below hI b2) (SlA.below hT b2) (SlA.below hS b2) (hO.keep (KeepT.below b2)) hil)
  obtain ⟨c0, c1, c2, c3⟩ := k7.cells
  have HB2 := Lib.hid (Below.after b1 b2)
  have HN4b := Lib.hid (below_block HB2.out HN4.out); have HN5b := Lib.hid (below_block HB2.out HN5.out); have HN6b := Lib.hid (below_block HB2.out HN6.out)
  have HM2 := Lib.hid k7; have HS2 := Lib.hid (s1.below b2); have HWD := Lib.hid hwd
  have HEL := Lib.hid (show E.length ≤ 1048576 by omega)
  have HG7 : Hid (g6 < g7) := Lib.hid (by rw [← hg7]; exact (Array.getElem?_eq_some_iff.1 (below_block b1 HN6.out)).1)
  clear b1 b2 s1 hwd hEl hil hI hT hS hO k7 z7 HBD HN4 HN5 HN6 sa sb hWa hWb hg4 hg5 hg6
  gi_wp2_with fail
  first | refine callsIn_wide.2 (HLA.out.mono ?_) | refine ⟨(fun h => by cases h), callsIn_wide.2 (HLA.out.mono ?_)⟩ | refine ⟨trivial, (fun h => by cases h), callsIn_wide.2 (HLA.out.mono ?_)⟩
  rintro e w3 ⟨id, ⟨ua, ul, uc⟩, rfl, hid, hbal, hul, hby, b3⟩
  obtain ⟨kn, hkn⟩ : ∃ y, decide ((txt E id).length ≤ 4096) = y := ⟨_, rfl⟩
  rw [hkn]
  obtain ⟨tl, htl⟩ : ∃ y, (txt E id).length = y := ⟨_, rfl⟩
  rw [htl] at hkn ⊢
  have hlb := (HWD.out.wf.len hid).2
  rw [htl] at hlb
  have HAW := Lib.hid (awake17_any w3)
  have HN4c := Lib.hid (below_block b3 HN4b.out); have HN5c := Lib.hid (below_block b3 HN5b.out); have HN6c := Lib.hid (below_block b3 HN6b.out)
  have HM4 := Lib.hid (show McC w3 g7 B (.slice ia il ic) (.slice la ll lc) (.slice ta tl' tc) from below_block b3 HM2.out)
  have HS4 := Lib.hid (HS2.out.below b3)
  have HB4 := Lib.hid (Below.after HB2.out b3)
  have HTL := Lib.hid htl; have HID := Lib.hid hid; have HLB := Lib.hid hlb; have HEV := Lib.hid hbal.even
  clear b3 hul hby hkn htl hid hbal hlb HLA HN4b HN5b HN6b HM2 HS2 HB2
  gi_wp2_with fail
  first | refine callsIn_wide.2 (HAW.out.mono ?_) | refine ⟨(fun h => by cases h), callsIn_wide.2 (HAW.out.mono ?_)⟩ | refine ⟨trivial, (fun h => by cases h), callsIn_wide.2 (HAW.out.mono ?_)⟩
  rintro e w5 ⟨rfl, b5⟩
  have HN4d := Lib.hid (below_block b5 HN4c.out); have HN5d := Lib.hid (below_block b5 HN5c.out); have HN6d := Lib.hid (below_block b5 HN6c.out)
  have HM5 := Lib.hid (show McC w5 g7 B (.slice ia il ic) (.slice la ll lc) (.slice ta tl' tc) from below_block b5 HM4.out)
  have HS5 := Lib.hid (HS4.out.below b5)
  have HBW : Hid (Below W.heap.size W w5) := Lib.hid (Below.after HB0.out (Below.after HB4.out b5))
  have c4 : w5.cell? ⟨g4, 0, none⟩ = some (.int .i64 x) := by have := HN4d.out; simp [World.cell?, this]
  have f4 : w5.frozen? ⟨g4, 0, none⟩ = false := by have := HN4d.out; simp [World.frozen?, this]
  have HOF := Lib.hid (offset_any w5 x (n := tl) HLB.out)
  clear b5 HAW HN4c HN5c HN6c HM4 HS4 HB4 hz2 hs2 p0 p1 p2 p3 q0 q1 q2 q3 c0 c1 c2 c3 hW0
  gi_wp2_with fail
  first | refine callsIn_wide.2 (HOF.out.mono ?_) | refine ⟨(fun h => by cases h), callsIn_wide.2 (HOF.out.mono ?_)⟩ | refine ⟨trivial, (fun h => by cases h), callsIn_wide.2 (HOF.out.mono ?_)⟩
  rintro e w6x ⟨fr, rfl, hfr, hw6x⟩
  rw [hw6x]
  clear hw6x w6x
  obtain ⟨w6, hw6⟩ : ∃ y, w5.setCell ⟨g4, 0, none⟩ (.int .i64 fr) = y := ⟨_, rfl⟩
  have hk6 : ∀ t, t ≠ 3 → KeepT t w5 w6 := fun t ht => by rw [← hw6]; exact KeepT.setCell (a := ⟨g4, 0, none⟩) HN4d.out (Ne.symm ht)
  have k4 : w6.heap[g4]? = some (.cells #[.int .i64 fr] 3 (0, 0)) := by rw [← hw6]; exact heap_set0 _ HN4d.out
  have k5 : w6.heap[g5]? = some (.cells #[.int .i64 y] 3 (0, 0)) := by rw [← hw6]; exact set_other (by have := HGS.out; omega) HN5d.out
  have s6 : StAt W0.heap.size w6 B 1048576 E := by rw [← hw6]; exact StAt.set HS5.out HN4d.out (by decide) (by decide) _
  have k6 : w6.heap[g6]? = some (.cells #[.bool false] 4 (0, 0)) := hk6 _ (by decide) _ _ _ HN6d.out
  have k7 : McC w6 g7 B (.slice ia il ic) (.slice la ll lc) (.slice ta tl' tc) := HM5.out.keep (hk6 _ (by decide))
  have bw6 : Below W.heap.size W w6 := by rw [← hw6]; exact HBW.out.setCell (p := ⟨g4, 0, none⟩) (Nat.le_of_eq HG4.out) _
  have d4 : w6.cell? ⟨g4, 0, none⟩ = some (.int .i64 fr) := by simp [World.cell?, k4]
  have d5 : w6.cell? ⟨g5, 0, none⟩ = some (.int .i64 y) := by simp [World.cell?, k5]
  have e5 : w6.frozen? ⟨g5, 0, none⟩ = false := by simp [World.frozen?, k5]
  have hsw : IntKind.i64.wrap ((tl : Int) - (fr : Int)) = ((tl - fr : Nat) : Int) := by rw [IntKind.wrap_i64]; have := HLB.out; omega
  obtain ⟨df, hdf⟩ : ∃ y, tl - fr = y := ⟨_, rfl⟩
  rw [hdf] at hsw
  have HFR : Hid (fr ≤ tl ∧ df = tl - fr) := Lib.hid ⟨hfr, hdf.symm⟩
  have HOG := Lib.hid (offset_any w6 y (n := df) (by have := HLB.out; omega))
  have HK4 := Lib.hid k4; have HK5 := Lib.hid k5; have HK6 := Lib.hid k6; have HK7 := Lib.hid k7; have HS6 := Lib.hid s6; have HBX := Lib.hid bw6
  clear hk6 k4 k5 k6 k7 s6 bw6 hfr hdf HOF HN4d HN5d HN6d HM5 HS5 HBW
  gi_wp2_with fail
  first | refine callsIn_wide.2 (HOG.out.mono ?_) | refine ⟨(fun h => by cases h), callsIn_wide.2 (HOG.out.mono ?_)⟩ | refine ⟨trivial, (fun h => by cases h), callsIn_wide.2 (HOG.out.mono ?_)⟩
  rintro e w7x ⟨nn, rfl, hnn, hw7x⟩
  rw [hw7x]
  clear hw7x w7x
  obtain ⟨w7, hw7⟩ : ∃ y, w6.setCell ⟨g5, 0, none⟩ (.int .i64 nn) = y := ⟨_, rfl⟩
  have hk7 : ∀ t, t ≠ 3 → KeepT t w6 w7 := fun t ht => by rw [← hw7]; exact KeepT.setCell (a := ⟨g5, 0, none⟩) HK5.out (Ne.symm ht)
  have k4 : w7.heap[g4]? = some (.cells #[.int .i64 fr] 3 (0, 0)) := by rw [← hw7]; exact set_other (by have := HGS.out; omega) HK4.out
  have k5 : w7.heap[g5]? = some (.cells #[.int .i64 nn] 3 (0, 0)) := by rw [← hw7]; exact heap_set0 _ HK5.out
  have s7 : StAt W0.heap.size w7 B 1048576 E := by rw [← hw7]; exact StAt.set HS6.out HK5.out (by decide) (by decide) _
  have k6 : w7.heap[g6]? = some (.cells #[.bool false] 4 (0, 0)) := hk7 _ (by decide) _ _ _ HK6.out
  have k7 : McC w7 g7 B (.slice ia il ic) (.slice la ll lc) (.slice ta tl' tc) := HK7.out.keep (hk7 _ (by decide))
  have bw7 : Below W.heap.size W w7 := by rw [← hw7]; exact HBX.out.setCell (p := ⟨g5, 0, none⟩) (by have h1 := HG4.out; have h2 := HGS.out; show W.heap.size ≤ g5; omega) _
  have HFN : Hid (fr + nn ≤ tl) := Lib.hid (by have := HFR.out; omega)
  obtain ⟨c0, -, -, -⟩ := k7.cells
  have HDP := Lib.hid (depth_any s7 HID.out HEL.out)
  obtain ⟨dp, hdp⟩ : ∃ y, (entAt E id).depth = y := ⟨_, rfl⟩
  have HDE : Hid ((entAt E id).depth = dp ∧ dp ≤ 1048576) := Lib.hid (by
    refine ⟨hdp, ?_⟩
    rcases Nat.eq_zero_or_pos id with h | h
    · subst h; rw [← hdp]; show (0 : Nat) ≤ _; omega
    · have h1 := (HWD.out.wf.get id h HID.out).2.2.2; have h2 := HEL.out; have h3 := HID.out; omega)
  rw [hdp] at HDP
  have HQ4 := Lib.hid k4; have HQ5 := Lib.hid k5; have HQ6 := Lib.hid k6; have HQ7 := Lib.hid k7; have HS7 := Lib.hid s7; have HBY := Lib.hid bw7
  clear hk7 k4 k5 k6 k7 s7 bw7 hnn hdp HOG HK4 HK5 HK6 HK7 HS6 HBX hsw
  gi_wp2_with fail
  first | refine callsIn_wide.2 (HDP.out.mono ?_) | refine ⟨(fun h => by cases h), callsIn_wide.2 (HDP.out.mono ?_)⟩ | refine ⟨trivial, (fun h => by cases h), callsIn_wide.2 (HDP.out.mono ?_)⟩
  rintro e w8 ⟨rfl, b8⟩
  obtain ⟨wz9, w9, hz9, hs9, k13, b9, z13, f13⟩ := newBx w8 3 (.int .i64 0) (.int .i64 dp)
  obtain ⟨g13, hg13⟩ : ∃ y, w8.heap.size = y := ⟨_, rfl⟩
  rw [hg13] at hs9 k13 z13 f13
  have b89 := Below.after b8 b9
  have HQ4b := Lib.hid (below_block b89 HQ4.out); have HQ5b := Lib.hid (below_block b89 HQ5.out); have HQ6b := Lib.hid (below_block b89 HQ6.out)
  have HQ7b := Lib.hid (show McC w9 g7 B (.slice ia il ic) (.slice la ll lc) (.slice ta tl' tc) from below_block b89 HQ7.out)
  have HS9 := Lib.hid (HS7.out.below b89)
  have HBZ := Lib.hid (Below.after HBY.out b89)
  have HK13 := Lib.hid k13
  have HG13 : Hid (g7 < g13) := Lib.hid (by rw [← hg13]; exact (Array.getElem?_eq_some_iff.1 (below_block b8 HQ7.out)).1)
  have HAWT := Lib.hid (aweight_any HS9.out HWD.out.wf HEL.out HID.out (frm := fr) (n := nn) (by rw [HTL.out]; exact HFN.out))
  obtain ⟨u, hu⟩ : ∃ u, wt (((txt E id).drop fr).take nn) = u := ⟨_, rfl⟩
  have HU := Lib.hid hu
  rw [hu] at HAWT
  unfold wtV at HAWT
  obtain ⟨c0, -, -, -⟩ := McC.cells HQ7b.out
  have d4 : w9.cell? ⟨g4, 0, none⟩ = some (.int .i64 fr) := by have := HQ4b.out; simp [World.cell?, this]
  have d5 : w9.cell? ⟨g5, 0, none⟩ = some (.int .i64 nn) := by have := HQ5b.out; simp [World.cell?, this]
  clear b8 b9 b89 k13 HDP HQ4 HQ5 HQ6 HQ7 HS7 HBY hu hw6 hw7 e5 c4 f4
  gi_wp2_with fail
  first | refine callsIn_wide.2 (HAWT.out.mono ?_) | refine ⟨(fun h => by cases h), callsIn_wide.2 (HAWT.out.mono ?_)⟩ | refine ⟨trivial, (fun h => by cases h), callsIn_wide.2 (HAWT.out.mono ?_)⟩
  rintro e w10 ⟨rfl, b10⟩
  obtain ⟨wz11, w11, hz11, hs11, k15, b11, ⟨p0, p1, p2, p3, p4, p5⟩, q0, q1, q2, q3, q4, q5⟩ := newWt w10 u
  obtain ⟨g15, hg15⟩ : ∃ y, w10.heap.size = y := ⟨_, rfl⟩
  rw [hg15] at hs11 k15 p0 p1 p2 p3 p4 p5 q0 q1 q2 q3 q4 q5
  have b911 := Below.after b10 b11
  have HR4 := Lib.hid (below_block b911 HQ4b.out); have HR5 := Lib.hid (below_block b911 HQ5b.out); have HR6 := Lib.hid (below_block b911 HQ6b.out)
  have HR7 := Lib.hid (show McC w11 g7 B (.slice ia il ic) (.slice la ll lc) (.slice ta tl' tc) from below_block b911 HQ7b.out)
  have HR13 := Lib.hid (below_block b911 HK13.out)
  have HR15 := Lib.hid k15
  have HS11 := Lib.hid (HS9.out.below b911)
  have HB11 := Lib.hid (Below.after HBZ.out b911)
  have HG15 : Hid (g13 < g15) := Lib.hid (by rw [← hg15]; exact (Array.getElem?_eq_some_iff.1 (below_block b10 HK13.out)).1)
  have d4 : ∀ w, Below w11.heap.size w11 w → w.cell? ⟨g4, 0, none⟩ = some (.int .i64 fr) := fun w hw => by have := below_block hw HR4.out; simp [World.cell?, this]
  obtain ⟨uz, huz⟩ : ∃ u, wt [] = u := ⟨_, rfl⟩
  have HUZ := Lib.hid huz
  have HUN : Hid (∀ w, Calls Try.prog 38 #[] w fun e w' => e = .returned (wtV uz) ∧ Below w.heap.size w w') := Lib.hid (fun w => by rw [← huz]; exact wunit_any w)
  clear b10 b11 b911 k15 HAWT HQ4b HQ5b HQ6b HQ7b HS9 HBZ HK13 c0 d5 hz9 hs9 z13 f13 hg13 huz
  gi_wp2_with fail
  clear hz11 hs11 p0 p1 p2 p3 p4 p5 q0 q1 q2 q3 q4 q5 hg15
  refine wpIn_region_anyNP (Below w11.heap.size w11) (by kernel_rfl) ?_
  obtain ⟨wd, hwd⟩ : ∃ y, w11.drew = y := ⟨_, rfl⟩
  have S0 : Below w11.heap.size w11 wd := by rw [← hwd]; exact (Below.refl _ _).drew
  rw [hwd]
  clear hwd
  refine AnyH.take (i := 1) (d := some 73) (v := ?_) (by kernel_rfl) rfl rfl HF (fun _ _ _ h => h) (.inl ⟨by rfl, ?_⟩) (by first | assumption | rfl) ?_
  rotate_left
  · intro w hS; try subst hS
    go_simp; try with_reducible rfl
  try simp only [Act.put, List.setIfInBounds_toArray, List.set_cons_zero, List.set_cons_succ]
  clear d4
  refine AnyH.floatCL [0, 2, 3, 4] 3 (fun _ => []) (fun x => match x with | 0 => 72 | 2 => 17 | 3 => 18 | _ => 19) (PPv w11.heap.size (wtV uz)) (fun x => x != 0) (by kernel_rfl) (by kernel_rfl) (Nat.le_of_ble_eq_true (by kernel_rfl)) HF S0 (fun x _ v w w' h hb => PPv.mono x v w w' h hb) ?box ?step ?tail
  case box =>
    intro x hx hal v w h
    simp only [List.mem_cons, List.not_mem_nil, or_false] at hx
    rcases hx with rfl | rfl | rfl | rfl
    · cases hal
    · obtain ⟨B, h1, h2, h3⟩ := h; exact ⟨B, h1, (Array.getElem?_eq_some_iff.1 h3).1⟩
    · obtain ⟨B, h1, h2, h3⟩ := h; exact ⟨B, h1, (Array.getElem?_eq_some_iff.1 h3).1⟩
    · obtain ⟨B, h1, h2, h3⟩ := h; exact ⟨B, h1, (Array.getElem?_eq_some_iff.1 h3).1⟩
  case step =>
    intro x hx vs w hS hP K hK
    simp only [List.mem_cons, List.not_mem_nil, or_false] at hx
    rcases hx with rfl | rfl | rfl | rfl
    · refine StepIn.mk rfl (by rfl) ?_
      simp only [putL, List.foldl_nil, List.foldl_cons, Act.put, List.setIfInBounds_toArray, List.set_cons_zero, List.set_cons_succ] at hK ⊢
      go_simp
      first | refine ⟨rfl, callsIn_wide.2 ((HUN.out w).mono ?_)⟩ | refine ⟨(fun h => by cases h), callsIn_wide.2 ((HUN.out w).mono ?_)⟩ | refine ⟨trivial, (fun h => by cases h), callsIn_wide.2 ((HUN.out w).mono ?_)⟩ | refine ⟨rfl, (fun h => by cases h), callsIn_wide.2 ((HUN.out w).mono ?_)⟩ | refine callsIn_wide.2 ((HUN.out w).mono ?_)
      rintro e w4 ⟨rfl, b4⟩
      exact hK _ _ (Below.after hS b4) b4 rfl (fun h => absurd h (by decide))
    · refine StepIn.mk rfl (by rfl) ?_
      simp only [putL, List.foldl_nil, List.foldl_cons, Act.put, List.setIfInBounds_toArray, List.set_cons_zero, List.set_cons_succ] at hK ⊢
      go_simp
      exact hK _ _ (hS.alloc hS.size _) ((Below.refl _ _).alloc (Nat.le_refl _) _) ⟨_, rfl, hS.size, heap_new' _ _⟩ (fun _ => rfl)
    · refine StepIn.mk rfl (by rfl) ?_
      simp only [putL, List.foldl_nil, List.foldl_cons, Act.put, List.setIfInBounds_toArray, List.set_cons_zero, List.set_cons_succ] at hK ⊢
      go_simp
      exact hK _ _ (hS.alloc hS.size _) ((Below.refl _ _).alloc (Nat.le_refl _) _) ⟨_, rfl, hS.size, heap_new' _ _⟩ (fun _ => rfl)
    · refine StepIn.mk rfl (by rfl) ?_
      simp only [putL, List.foldl_nil, List.foldl_cons, Act.put, List.setIfInBounds_toArray, List.set_cons_zero, List.set_cons_succ] at hK ⊢
      go_simp
      exact hK _ _ (hS.alloc hS.size _) ((Below.refl _ _).alloc (Nat.le_refl _) _) ⟨_, rfl, hS.size, heap_new' _ _⟩ (fun _ => rfl)
  case tail =>
    intro vs w hS hP hD d
    have h0 : vs 0 = wtV uz := hP 0 (by simp)
    obtain ⟨B17, e17, l17, n17⟩ : BoxW w11.heap.size (vs 2) w := hP 2 (by simp)
    obtain ⟨B18, e18, l18, n18⟩ : BoxI w11.heap.size (vs 3) w := hP 3 (by simp)
    obtain ⟨B19, e19, l19, n19⟩ : BoxI w11.heap.size (vs 4) w := hP 4 (by simp)
    have t1 : B17 ≠ B18 := fun e => hD 2 (by simp) 3 (by simp) rfl rfl (by decide) (by rw [e17, e18, e])
    have t2 : B17 ≠ B19 := fun e => hD 2 (by simp) 4 (by simp) rfl rfl (by decide) (by rw [e17, e19, e])
    have t3 : B18 ≠ B19 := fun e => hD 3 (by simp) 4 (by simp) rfl rfl (by decide) (by rw [e18, e19, e])
    clear hP hD
    simp only [putL, List.foldl_nil, List.foldl_cons, h0, e17, e18, e19, Act.put, List.setIfInBounds_toArray, List.set_cons_zero, List.set_cons_succ]
    clear h0 e17 e18 e19 vs
    unfold wtV
    obtain ⟨x0, x1, x2, x3, x4, x5⟩ := n17.cells
    have f0 := n17.free 0; have f1 := n17.free 1; have f2 := n17.free 2; have f3 := n17.free 3; have f4 := n17.free 4; have f5 := n17.free 5
    simp only [w0] at x0 x1 x2 x3 x4 x5
    have kw1 := n17.set uz
    have bw1 := setW_below hS l17 uz
    have k18 := setW_other uz (Ne.symm t1) n18
    have k19 := setW_other uz (Ne.symm t2) n19
    obtain ⟨wa, hwa⟩ : ∃ w', setW w B17 uz = w' := ⟨_, rfl⟩
    rw [hwa] at kw1 bw1 k18 k19
    simp only [setW] at hwa
    refine AnyH.one (i := 5) (by kernel_rfl) (by kernel_rfl) rfl HF (by rfl) (fun K hK => ?_)
    go_simp
    refine hK _ _ bw1 ?_
    clear hK K hwa x0 x1 x2 x3 x4 x5 f0 f1 f2 f3 f4 f5
    have c18 : wa.cell? ⟨B18, 0, none⟩ = some (.int .i64 0) := by simp [World.cell?, k18]
    have f18 : wa.frozen? ⟨B18, 0, none⟩ = false := by simp [World.frozen?, k18]
    obtain ⟨wb, hwb⟩ : ∃ w', wa.setCell ⟨B18, 0, none⟩ (.int .i64 fr) = w' := ⟨_, rfl⟩
    have bw2 : Below w11.heap.size w11 wb := by rw [← hwb]; exact bw1.setCell (p := ⟨B18, 0, none⟩) l18 _
    have kw2 : WtC wb B17 uz := by rw [← hwb]; exact set_other t1 kw1
    have k18b : wb.heap[B18]? = some (.cells #[.int .i64 fr] 3 (0, 0)) := by rw [← hwb]; exact heap_set0 _ k18
    have k19b : wb.heap[B19]? = some (.cells #[.int .i64 0] 3 (0, 0)) := by rw [← hwb]; exact set_other (Ne.symm t3) k19
    refine AnyH.one (i := 6) (by kernel_rfl) (by kernel_rfl) rfl HF (by rfl) (fun K hK => ?_)
    go_simp
    refine hK _ _ bw2 ?_
    clear hK K hwb c18 f18
    have c19 : wb.cell? ⟨B19, 0, none⟩ = some (.int .i64 0) := by simp [World.cell?, k19b]
    have f19 : wb.frozen? ⟨B19, 0, none⟩ = false := by simp [World.frozen?, k19b]
    obtain ⟨wc, hwc⟩ : ∃ w', wb.setCell ⟨B19, 0, none⟩ (.int .i64 0) = w' := ⟨_, rfl⟩
    have bw3 : Below w11.heap.size w11 wc := by rw [← hwc]; exact bw2.setCell (p := ⟨B19, 0, none⟩) l19 _
    have kw3 : WtC wc B17 uz := by rw [← hwc]; exact set_other t2 kw2
    have k18c : wc.heap[B18]? = some (.cells #[.int .i64 fr] 3 (0, 0)) := by rw [← hwc]; exact set_other t3 k18b
    have k19c : wc.heap[B19]? = some (.cells #[.int .i64 0] 3 (0, 0)) := by rw [← hwc]; exact heap_set0 _ k19b
    refine AnyH.one (i := 7) (by kernel_rfl) (by kernel_rfl) rfl HF (by rfl) (fun K hK => ?_)
    go_simp
    refine hK _ _ bw3 ?_
    clear hK K hwc c19 f19
    refine AnyH.done (by kernel_rfl) ?_
    refine NP.normal ?_
    have HT4 := Lib.hid (below_block bw3 HR4.out); have HT5 := Lib.hid (below_block bw3 HR5.out); have HT6 := Lib.hid (below_block bw3 HR6.out)
    have HT7 := Lib.hid (show McC wc g7 B (.slice ia il ic) (.slice la ll lc) (.slice ta tl' tc) from below_block bw3 HR7.out)
    have HT13 := Lib.hid (below_block bw3 HR13.out)
    have HT15 : Hid (WtC wc g15 u) := Lib.hid (below_block bw3 HR15.out)
    have HST := Lib.hid (HS11.out.below bw3)
    have HBT := Lib.hid (Below.after HB11.out bw3)
    have HK17 := Lib.hid kw3; have HK18 := Lib.hid k18c; have HK19 := Lib.hid k19c
    have HL15 : Hid (g15 < w11.heap.size) := Lib.hid (Array.getElem?_eq_some_iff.1 (show w11.heap[g15]? = _ from HR15.out)).1
    have HDD : Hid ((B17 ≠ B18 ∧ B17 ≠ B19 ∧ B18 ≠ B19) ∧ g15 < B17 ∧ g15 < B18 ∧ g15 < B19) := Lib.hid ⟨⟨t1, t2, t3⟩, by have := HL15.out; omega, by have := HL15.out; omega, by have := HL15.out; omega⟩
    have HPS := Lib.hid (pieces_seq HST.out HWD.out HEL.out HID.out HEV.out (frm := fr) (k := nn) (by rw [HTL.out]; exact HFN.out))
    obtain ⟨c0, -, -, -⟩ := McC.cells HT7.out
    have d4 : wc.cell? ⟨g4, 0, none⟩ = some (.int .i64 fr) := by have := HT4.out; simp [World.cell?, this]
    have d5 : wc.cell? ⟨g5, 0, none⟩ = some (.int .i64 nn) := by have := HT5.out; simp [World.cell?, this]
    clear kw1 bw1 k18 k19 kw2 bw2 k18b k19b kw3 bw3 k18c k19c t1 t2 t3 l17 l18 l19 n17 n18 n19 hS HR4 HR5 HR6 HR7 HR13 HR15 HS11 HB11 S0
    gi_wp2_with fail
    first | refine callsIn_wide.2 (HPS.out.mono ?_) | refine ⟨(fun h => by cases h), callsIn_wide.2 (HPS.out.mono ?_)⟩ | refine ⟨trivial, (fun h => by cases h), callsIn_wide.2 (HPS.out.mono ?_)⟩
    rintro e w12 ⟨vq, rfl, ⟨gf, lb, rfl, hen, hst⟩, b12⟩
    obtain ⟨ls, hls⟩ : ∃ l : List (Nat × Array Value × TypeId), [(g4, #[.int .i64 fr], 3), (g5, #[.int .i64 nn], 3), (g6, #[.bool false], 4), (g7, #[.pointer (some ⟨B, 0, none⟩), .slice ia il ic, .slice la ll lc, .slice ta tl' tc], 28), (g13, #[.int .i64 dp], 3), (g15, #[.int .i64 u.len, .int .i64 u.lines, .int .i64 u.head, .int .i64 u.tail, .int .u64 u.d.v, .int .u64 u.d.s], 88)] = l := ⟨_, rfl⟩
    have HSB : Hid (SB ls w12) := Lib.hid (by
      intro p hp
      rw [← hls] at hp
      simp only [List.mem_cons, List.not_mem_nil, or_false] at hp
      rcases hp with rfl | rfl | rfl | rfl | rfl | rfl
      · exact below_block b12 HT4.out
      · exact below_block b12 HT5.out
      · exact below_block b12 HT6.out
      · exact below_block b12 HT7.out
      · exact below_block b12 HT13.out
      · exact below_block b12 HT15.out)
    have HCL : Hid (∀ Y, SB ls Y → Y.cell? ⟨g7, 0, none⟩ = some (.pointer (some ⟨B, 0, none⟩)) ∧ Y.cell? ⟨g4, 0, none⟩ = some (.int .i64 fr) ∧ Y.cell? ⟨g5, 0, none⟩ = some (.int .i64 nn) ∧ Y.cell? ⟨g13, 0, none⟩ = some (.int .i64 dp) ∧ Y.heap[g6]? = some (.cells #[.bool false] 4 (0, 0)) ∧ WtC Y g15 u ∧ True) := Lib.hid (fun Y hY => by
      subst hls
      exact ⟨(hY.cell (g := g7) (cs := #[.pointer (some ⟨B, 0, none⟩), .slice ia il ic, .slice la ll lc, .slice ta tl' tc]) (t := 28) (by simp) 0).1, (hY.cell (g := g4) (cs := #[.int .i64 fr]) (t := 3) (by simp) 0).1, (hY.cell (g := g5) (cs := #[.int .i64 nn]) (t := 3) (by simp) 0).1, (hY.cell (g := g13) (cs := #[.int .i64 dp]) (t := 3) (by simp) 0).1, hY (g6, #[.bool false], 4) (by simp), hY (g15, #[.int .i64 u.len, .int .i64 u.lines, .int .i64 u.head, .int .i64 u.tail, .int .u64 u.d.v, .int .u64 u.d.s], 88) (by simp), trivial⟩)
    have HTY : Hid (∀ p ∈ ls, p.2.2 ∉ PcT) := Lib.hid (fun p hp => by
      subst hls
      simp only [List.mem_cons, List.not_mem_nil, or_false] at hp
      rcases hp with rfl | rfl | rfl | rfl | rfl | rfl <;> (dsimp only; decide))
    have HLT : Hid (∀ p ∈ ls, p.1 ≠ B17 ∧ p.1 ≠ B18 ∧ p.1 ≠ B19) := Lib.hid (fun p hp => by
      subst hls
      have h1 := HDD.out.2; have h2 := HG15.out; have h3 := HG13.out; have h4 := HG7.out; have h5 := HGS.out
      simp only [List.mem_cons, List.not_mem_nil, or_false] at hp
      rcases hp with rfl | rfl | rfl | rfl | rfl | rfl <;> (dsimp only; omega))
    clear hls
    have HEN := Lib.hid hen; have HSQ := Lib.hid hst
    have HJ : Hid (StJ [] ls W W0.heap.size w12.heap.size B E w12) := Lib.hid ⟨HSB.out, (HST.out.below b12).b (Nat.le_refl _), Below.after HBT.out b12, by simp⟩
    have HK17b : Hid (WtC w12 B17 (wt (pcT E []))) := Lib.hid (by have h := below_block b12 HK17.out; rw [show wt (pcT E []) = uz from HUZ.out]; exact h)
    have HK18b := Lib.hid (below_block b12 HK18.out); have HK19b := Lib.hid (below_block b12 HK19.out)
    have HWZ : Hid (W.heap.size ≤ w12.heap.size) := Lib.hid HJ.out.2.2.1.size
    have HGB : Hid (W.heap.size ≤ B17 ∧ W.heap.size ≤ B18 ∧ W.heap.size ≤ B19 ∧ g6 < w12.heap.size) := Lib.hid (by
      have h1 := HDD.out.2; have h2 := HG15.out; have h3 := HG13.out; have h4 := HG7.out; have h5 := HGS.out; have h6 := HG4.out
      have h7 := (Array.getElem?_eq_some_iff.1 (HCL.out w12 HSB.out).2.2.2.2.1).1
      omega)
    have HYS : Hid (Adj E fr (fr + nn) (pcF E fr (fr + nn) id 0)) := Lib.hid (pcF_adj0 HWD.out (by omega) (by rw [HTL.out]; exact HFN.out) HID.out HEV.out)
    have HYM : Hid ((pcF E fr (fr + nn) id 0).length ≤ 2 * dp + 1) := Lib.hid (by rw [← HDE.out.1]; exact pcF_many HWD.out id 0 HID.out HEV.out)
    have HYI : Hid (∀ p ∈ pcF E fr (fr + nn) id 0, 0 < p.2 ∧ p.2 ≤ id) := Lib.hid (pcF_mem HWD.out id 0 HID.out HEV.out)
    have HYT : Hid (wt (pcT E (pcF E fr (fr + nn) id 0)) = u) := Lib.hid (by
      rw [← HU.out, pcF_txt HWD.out id 0 HID.out HEV.out, Nat.sub_zero, Nat.sub_zero, List.drop_take, Nat.add_sub_cancel_left])
    generalize pcF E fr (fr + nn) id 0 = ys at *
    clear hen hst b12 HSB HT4 HT5 HT6 HT7 HT13 HT15 HST HBT HK17 HK18 HK19 HPS c0 d4 d5
    gi_wp2_with fail
    refine wpIn_rangeFunc_T rfl (by omega) (gf := gf) (lb := lb) rfl trivial HEN.out (HSQ.out 8) KpI.trans (fun X l o o' hl ho hc _ => KpI.put X l o o' hl ho hc) (Below.refl _ _) (fun _ => rfl)
      (fun pre Y => StJ [] ls W W0.heap.size w12.heap.size B E Y ∧ WtC Y B17 (wt (pcT E pre)) ∧ Y.heap[B18]? = some (.cells #[.int .i64 (fr + (pcT E pre).length : Nat)] 3 (0, 0)) ∧ Y.heap[B19]? = some (.cells #[.int .i64 (pre.length : Nat)] 3 (0, 0)))
      (fun c pre Y => False)
      (fun s A C row hs hg hr => ⟨hs.1.own hg hr (Nat.le_refl _) HWZ.out, own_cells hg hr hs.2.1, own_cells hg hr hs.2.2.1, own_cells hg hr hs.2.2.2⟩)
      (fun c s A C row hs => hs.elim)
      (fun s A C hs h => ⟨hs.1.kpl h HTY.out (by decide) (by decide) HWZ.out, h.cells _ (by decide) _ _ _ hs.2.1, h.cells _ (by decide) _ _ _ hs.2.2.1, h.cells _ (by decide) _ _ _ hs.2.2.2⟩)
      (fun c s A C hs => hs.elim)
      ⟨HJ.out, HK17b.out, HK18b.out, HK19b.out⟩ ?round ?done (fun D c pre Y hD hp hx => hx.elim)
    case round =>
      intro l pre x' Y Yb K hI hlen hK
      have HF : ∀ f, (Fence.wide.inRound l).fn f := fun _ => trivial
      have HK := Lib.hid hK
      clear hK
      gi_wp2_with fail
      refine HK.out _ ?_
      clear HK
      obtain ⟨h1, h2, h3, h4⟩ := hI
      obtain ⟨a, i⟩ := x'
      obtain ⟨hq1, hq2⟩ := HYS.out.next hlen
      have hmem := HYI.out (a, i) (hlen.subset (by simp))
      have hcnt := hlen.length_le
      rw [List.length_append, List.length_singleton] at hcnt
      dsimp only at hq1 hq2 hmem
      have hie : i ≤ E.length := by have := HID.out; omega
      have HWI := Lib.hid (weight_any h1.2.1.st hie HEL.out)
      rw [(HWD.out.wf.len hie).1] at HWI
      obtain ⟨ub, hub⟩ : ∃ u, wt (txt E i) = u := ⟨_, rfl⟩
      have HUB : Hid (ub.len = (txt E i).length) := Lib.hid (by rw [← hub]; rfl)
      have hokb : WtOk ub := by rw [← hub]; exact wt_ok (HWD.out.wf.len hie).2
      rw [hub] at HWI
      unfold wtV at HWI
      obtain ⟨ua, hua⟩ : ∃ u, wt (pcT E pre) = u := ⟨_, rfl⟩
      have hlp : (pcT E pre).length ≤ 1152921504606846976 := by have := HFN.out; have := HLB.out; omega
      have hoka : WtOk ua := by rw [← hua]; exact wt_ok hlp
      have HUA : Hid (ua.len = (pcT E pre).length) := Lib.hid (by rw [← hua]; rfl)
      have HUJ : Hid (wt (pcT E (pre ++ [(a, i)])) = joinW ua ub) := Lib.hid (by
        rw [pcT_append, wt_append, hua, show pcT E [(a, i)] = txt E i from List.append_nil _, hub])
      have HPJ : Hid ((pcT E (pre ++ [(a, i)])).length = (pcT E pre).length + (txt E i).length) := Lib.hid (by
        rw [pcT_append, List.length_append, show pcT E [(a, i)] = txt E i from List.append_nil _])
      have HJN := Lib.hid (fun w : World => wjoin_any w hoka hokb (by rw [HUA.out, HUB.out]; have := HFN.out; have := HLB.out; omega))
      unfold wtV at HJN
      obtain ⟨uj, huj⟩ : ∃ u, joinW ua ub = u := ⟨_, rfl⟩
      rw [huj] at HJN HUJ
      rw [hua] at h2
      obtain ⟨nx, hnx⟩ : ∃ n, fr + (pcT E pre).length = n := ⟨_, rfl⟩
      rw [hnx] at h3 hq1
      obtain ⟨m, hm⟩ : ∃ n, pre.length = n := ⟨_, rfl⟩
      rw [hm] at h4 hcnt
      have HNX := Lib.hid hnx; have HM := Lib.hid hm
      obtain ⟨e7, e4, e5, e13, -, -, -⟩ := HCL.out Yb h1.1
      have bq1 : ((a : Int) != (nx : Int)) = false := by simp; omega
      have hdp1 : IntKind.i64.wrap (4 * (dp : Int)) = 4 * (dp : Int) := by rw [IntKind.wrap_i64]; have := HDE.out.2; omega
      have hdp2 : IntKind.i64.wrap (4 * (dp : Int) + 4) = 4 * (dp : Int) + 4 := by rw [IntKind.wrap_i64]; have := HDE.out.2; omega
      have bq2 : ¬ 4 * (dp : Int) + 4 < (m : Int) := by have := HYM.out; omega
      have bq2' : decide (4 * (dp : Int) + 4 < (m : Int)) = false := decide_eq_false bq2
      have hfn : IntKind.i64.wrap ((fr : Int) + (nn : Int)) = (fr : Int) + (nn : Int) := by rw [IntKind.wrap_i64]; have := HFN.out; have := HLB.out; omega
      have hfa : IntKind.i64.wrap ((fr : Int) + (nn : Int) - (a : Int)) = (fr : Int) + (nn : Int) - (a : Int) := by rw [IntKind.wrap_i64]; have := HFN.out; have := HLB.out; omega
      have bq3 : ¬ (fr : Int) + (nn : Int) - (a : Int) < (ub.len : Int) := by rw [HUB.out]; omega
      have bq3' : decide ((fr : Int) + (nn : Int) - (a : Int) < (ub.len : Int)) = false := decide_eq_false bq3
      have hnw : IntKind.i64.wrap ((nx : Int) + (ub.len : Int)) = ((nx + ub.len : Nat) : Int) := by rw [IntKind.wrap_i64, HUB.out]; have := HFN.out; have := HLB.out; omega
      have hmw : IntKind.i64.wrap ((m : Int) + 1) = ((m + 1 : Nat) : Int) := by rw [IntKind.wrap_i64]; have := HYM.out; have := HDE.out.2; omega
      obtain ⟨nx2, hnx2⟩ : ∃ n, nx + ub.len = n := ⟨_, rfl⟩
      obtain ⟨m2, hm2⟩ : ∃ n, m + 1 = n := ⟨_, rfl⟩
      rw [hnx2] at hnw
      rw [hm2] at hmw
      have HNX2 : Hid (fr + (pcT E (pre ++ [(a, i)])).length = nx2) := Lib.hid (by rw [HPJ.out, ← hnx2, HUB.out, ← HNX.out]; omega)
      have HM2' : Hid ((pre ++ [(a, i)]).length = m2) := Lib.hid (by rw [List.length_append, List.length_singleton, HM.out, hm2])
      have HJB := Lib.hid h1; have HW1 := Lib.hid h2; have HX1 := Lib.hid h3; have HY1 := Lib.hid h4
      clear h1 h2 h3 h4 hlen hq1 hq2 hmem hcnt hub hua hnx hm hlp hoka hokb huj hnx2 hm2 hie
      gi_wp2_with fail
      first | refine callsIn_wide.2 (HWI.out.mono ?_) | refine CallsIn.inRound l (callsIn_wide.2 (HWI.out.mono ?_)) | refine ⟨(fun h => by cases h), CallsIn.inRound l (callsIn_wide.2 (HWI.out.mono ?_))⟩ | refine ⟨trivial, (fun h => by cases h), CallsIn.inRound l (callsIn_wide.2 (HWI.out.mono ?_))⟩
      rintro e Yc ⟨rfl, bc⟩
      obtain ⟨wzd, Yd, hzd, hsd, kt, bd, ⟨p0, p1, p2, p3, p4, p5⟩, q0, q1, q2, q3, q4, q5⟩ := newWt Yc ub
      obtain ⟨gt, hgt⟩ : ∃ g, Yc.heap.size = g := ⟨_, rfl⟩
      rw [hgt] at hsd kt p0 p1 p2 p3 p4 p5 q0 q1 q2 q3 q4 q5
      obtain ⟨y0, y1, y2, y3, y4, y5⟩ := kt.cells
      have bcd := Below.after bc bd
      have jd := HJB.out.below bcd
      have k18d := below_block bcd HX1.out; have k19d := below_block bcd HY1.out
      have k17d : WtC Yd B17 ua := below_block bcd HW1.out
      obtain ⟨e7d, e4d, e5d, e13d, -, -, -⟩ := HCL.out Yd jd.1
      have c18d : Yd.cell? ⟨B18, 0, none⟩ = some (.int .i64 nx) := by simp [World.cell?, k18d]
      have f18d : Yd.frozen? ⟨B18, 0, none⟩ = false := by simp [World.frozen?, k18d]
      have c19d : Yd.cell? ⟨B19, 0, none⟩ = some (.int .i64 m) := by simp [World.cell?, k19d]
      obtain ⟨t1, t2, t3⟩ := HDD.out.1
      have hgtB : B17 ≠ gt ∧ B18 ≠ gt ∧ B19 ≠ gt := by
        have h1 := (Array.getElem?_eq_some_iff.1 (below_block bc HX1.out)).1; have h2 := (Array.getElem?_eq_some_iff.1 (below_block bc HY1.out)).1; have h3 := (Array.getElem?_eq_some_iff.1 (below_block bc HW1.out)).1
        omega
      obtain ⟨Ye, hYe⟩ : ∃ y, Yd.setCell ⟨B18, 0, none⟩ (.int .i64 nx2) = y := ⟨_, rfl⟩
      obtain ⟨Yf, hYf⟩ : ∃ y, Ye.setCell ⟨B19, 0, none⟩ (.int .i64 m2) = y := ⟨_, rfl⟩
      have k18e : Ye.heap[B18]? = some (.cells #[.int .i64 nx2] 3 (0, 0)) := by rw [← hYe]; exact heap_set0 _ k18d
      have k19e : Ye.heap[B19]? = some (.cells #[.int .i64 m] 3 (0, 0)) := by rw [← hYe]; exact set_other (Ne.symm t3) k19d
      have c19e : Ye.cell? ⟨B19, 0, none⟩ = some (.int .i64 m) := by simp [World.cell?, k19e]
      have f19e : Ye.frozen? ⟨B19, 0, none⟩ = false := by simp [World.frozen?, k19e]
      have k18f : Yf.heap[B18]? = some (.cells #[.int .i64 nx2] 3 (0, 0)) := by rw [← hYf]; exact set_other t3 k18e
      have k19f : Yf.heap[B19]? = some (.cells #[.int .i64 m2] 3 (0, 0)) := by rw [← hYf]; exact heap_set0 _ k19e
      have k17f : WtC Yf B17 ua := by rw [← hYf, ← hYe]; exact set_other t2 (set_other t1 k17d)
      have ktf : WtC Yf gt ub := by rw [← hYf, ← hYe]; exact set_other (Ne.symm hgtB.2.2) (set_other (Ne.symm hgtB.2.1) kt)
      obtain ⟨v0, v1, v2, v3, v4, v5⟩ := ktf.cells
      obtain ⟨u0, u1, u2, u3, u4, u5⟩ := k17f.cells
      have jf : StJ [] ls W W0.heap.size w12.heap.size B E Yf := by
        rw [← hYf]
        refine StJ.set ?_ k19e (by decide) (by decide) (fun p hp => (HLT.out p hp).2.2) HGB.out.2.2.1 _
        rw [← hYe]
        exact jd.set k18d (by decide) (by decide) (fun p hp => (HLT.out p hp).2.1) HGB.out.2.1 _
      have kof : KeepsOthers Yb Yf := by rw [← hYf, ← hYe]; exact keepsOthers_setCell (keepsOthers_setCell (keepsOthers_below bcd) _ _) _ _
      have ktt : ∀ t, t ≠ 3 → KeepT t Yb Yf := fun t ht => by
        rw [← hYf]
        refine KeepT.trans ?_ (KeepT.setCell (a := ⟨B19, 0, none⟩) k19e (Ne.symm ht))
        rw [← hYe]
        exact (KeepT.below bcd).trans (KeepT.setCell (a := ⟨B18, 0, none⟩) k18d (Ne.symm ht))
      have HJF := Lib.hid jf; have HKO := Lib.hid kof; have HKT := Lib.hid ktt; have H17F := Lib.hid k17f; have H18F := Lib.hid k18f; have H19F := Lib.hid k19f
      clear bc bd kt bcd jd k18d k19d k17d k18e k19e k18f k19f k17f ktf jf kof ktt t1 t2 t3 hgtB e7 e4 e5 e13 HWI HJB HW1 HX1 HY1
      gi_wp2_with fail
      first | refine callsIn_wide.2 ((HJN.out _).mono ?_) | refine CallsIn.inRound l (callsIn_wide.2 ((HJN.out _).mono ?_)) | refine ⟨(fun h => by cases h), CallsIn.inRound l (callsIn_wide.2 ((HJN.out _).mono ?_))⟩ | refine ⟨trivial, (fun h => by cases h), CallsIn.inRound l (callsIn_wide.2 ((HJN.out _).mono ?_))⟩
      rintro e Yg ⟨rfl, bg⟩
      have jg := HJF.out.below bg
      have k17g : WtC Yg B17 ua := below_block bg H17F.out
      obtain ⟨x0, x1, x2, x3, x4, x5⟩ := k17g.cells
      have f0 := k17g.free 0; have f1 := k17g.free 1; have f2 := k17g.free 2; have f3 := k17g.free 3; have f4 := k17g.free 4; have f5 := k17g.free 5
      obtain ⟨Yh, hYh⟩ : ∃ y, setW Yg B17 uj = y := ⟨_, rfl⟩
      have HFIN : Hid (StJ [] ls W W0.heap.size w12.heap.size B E Yh ∧ WtC Yh B17 (wt (pcT E (pre ++ [(a, i)]))) ∧ Yh.heap[B18]? = some (.cells #[.int .i64 (fr + (pcT E (pre ++ [(a, i)])).length : Nat)] 3 (0, 0)) ∧ Yh.heap[B19]? = some (.cells #[.int .i64 ((pre ++ [(a, i)]).length : Nat)] 3 (0, 0)) ∧ KeepsOthers Yb Yh ∧ (∀ t, t ≠ 3 → t ≠ 88 → KeepT t Yb Yh)) := Lib.hid (by
        rw [← hYh, HUJ.out, HNX2.out, HM2'.out]
        refine ⟨jg.setW k17g (fun p hp => (HLT.out p hp).1) HGB.out.1 uj, k17g.set uj, setW_other uj (Ne.symm HDD.out.1.1) (below_block bg H18F.out), setW_other uj (Ne.symm HDD.out.1.2.1) (below_block bg H19F.out), keepsOthers_setW (HKO.out.trans (keepsOthers_below bg)) _ _, fun t h1 h2 => ((HKT.out t h1).trans (KeepT.below bg)).trans (KeepT.setW k17g (Ne.symm h2) uj)⟩)
      simp only [setW] at hYh
      clear bg jg k17g HJF HKO HKT H17F H18F H19F hzd hsd p0 p1 p2 p3 p4 p5 q0 q1 q2 q3 q4 q5 y0 y1 y2 y3 y4 y5 hYe hYf c18d f18d c19d c19e f19e e7d e4d e5d e13d v0 v1 v2 v3 v4 v5 u0 u1 u2 u3 u4 u5 hgt
      gi_wp2_with fail
      obtain ⟨k1, k2, k3, k4, k5, k6⟩ := HFIN.out
      exact ⟨k5, KpI.of_others (fun t ht => k6 t (by intro e; subst e; revert ht; decide) (by intro e; subst e; revert ht; decide)) k5, k1, k2, k3, k4⟩
    case done =>
      rintro D xs Y hD rfl ⟨hj, h17, h18, h19⟩ hDc
      have HMF0 : Hid (Marks w12.heap.size Y [{ target := .collected D, args := #[] }]) := Lib.hid ((Marks.nil _ Y).cons (fun D' h => by cases h) hD hDc)
      rw [HYT.out] at h17
      have hln := HYS.out.len
      rw [hln] at h18
      obtain ⟨m, hm⟩ : ∃ n, xs.length = n := ⟨_, rfl⟩
      have hym := HYM.out
      rw [hm] at h19 hym
      obtain ⟨e7, e4, e5, e13, k6, k15, -⟩ := HCL.out Y hj.1
      have c18 : Y.cell? ⟨B18, 0, none⟩ = some (.int .i64 ((fr + nn : Nat) : Int)) := by simp [World.cell?, h18]
      have c19 : Y.cell? ⟨B19, 0, none⟩ = some (.int .i64 m) := by simp [World.cell?, h19]
      obtain ⟨x0, x1, x2, x3, x4, x5⟩ := h17.cells
      obtain ⟨y0, y1, y2, y3, y4, y5⟩ := k15.cells
      have hfn : IntKind.i64.wrap ((fr : Int) + (nn : Int)) = ((fr + nn : Nat) : Int) := by rw [IntKind.wrap_i64]; have := HFN.out; have := HLB.out; omega
      obtain ⟨fn, hfne⟩ : ∃ n, fr + nn = n := ⟨_, rfl⟩
      rw [hfne] at hfn c18
      have b1 : ((fn : Int) == (fn : Int)) = true := by simp
      have hd1 : IntKind.i64.wrap ((dp : Int) + 1) = (dp : Int) + 1 := by rw [IntKind.wrap_i64]; have := HDE.out.2; omega
      have hd2 : IntKind.i64.wrap (4 * ((dp : Int) + 1)) = 4 * ((dp : Int) + 1) := by rw [IntKind.wrap_i64]; have := HDE.out.2; omega
      have b2 : (m : Int) ≤ 4 * ((dp : Int) + 1) := by omega
      have b2' : decide ((m : Int) ≤ 4 * ((dp : Int) + 1)) = true := decide_eq_true b2
      have hgd : Try.prog.eqGuardType Try.prog.depth 88 = false := by kernel_rfl
      have hws := wt_self u
      unfold wtV at hws
      have k8 := k6
      have c8 : Y.cell? ⟨g6, 0, none⟩ = some (.bool false) := by simp [World.cell?, k8]
      have f8 : Y.frozen? ⟨g6, 0, none⟩ = false := by simp [World.frozen?, k8]
      obtain ⟨Ye, hYe⟩ : ∃ y, Y.setCell ⟨g6, 0, none⟩ (.bool true) = y := ⟨_, rfl⟩
      have HC8 : Hid (Ye.heap[g6]? = some (.cells #[.bool true] 4 (0, 0))) := Lib.hid (by rw [← hYe]; exact heap_set0 _ k8)
      have HBF : Hid (Below W.heap.size W Ye) := Lib.hid (by rw [← hYe]; exact hj.2.2.1.setCell (p := ⟨g6, 0, none⟩) (by have h1 := HG4.out; have h2 := HGS.out; show W.heap.size ≤ g6; omega) _)
      have HMF := Lib.hid (HMF0.out.keep (by rw [← hYe]; exact KeepsOthers.setCell Y ⟨g6, 0, none⟩ (.bool true) : KeepsOthers Y Ye))
      have HZF : Hid (w12.heap.size ≤ Ye.heap.size) := Lib.hid (by rw [← hYe]; have := (Array.getElem?_eq_some_iff.1 hDc).1; simp; omega)
      clear k8 k6 k15 h17 h18 h19 hj hDc hD hln hm hym hfne HEN HSQ HMF0
      gi_wp2_with fail
      refine HMF.out.leaves HZF.out fun w' hb' => ?_
      have hc7 := (hb'.block g6 HGB.out.2.2.2).trans HC8.out
      have hc8 : w'.cell? ⟨g6, 0, none⟩ = some (.bool true) := by simp [World.cell?, hc7]
      refine ⟨.bool true, ?_, rfl, HBF.out.trans (hb'.mono HWZ.out)⟩
      simp [results, Try.f11, go_sem, hc8]
end M
end Go.Proofs.Ytpjcfepngjpfbaa
