/- WalkStops: the walk. -/
import Derived.Test.YtpjcfepngjpfbaaAwk17
import Derived.Test.YtpjcfepngjpfbaaOff17
import Derived.Test.YtpjcfepngjpfbaaBx17
import Derived.Test.YtpjcfepngjpfbaaLast
import Derived.Test.YtpjcfepngjpfbaaBld14
import Derived.Test.YtpjcfepngjpfbaaBackSeq
import Derived.Test.YtpjcfepngjpfbaaSB
import Derived.Test.YtpjcfepngjpfbaaAccAt
import Derived.Test.YtpjcfepngjpfbaaOwn
namespace Go.Proofs.Ytpjcfepngjpfbaa
open Go.RowKit Go.Lib
namespace M
attribute [local go_sem] Oper.semAt_some
/-- What stands while the iterators run. -/
def StJ (ds : List Nat) (ls : List (Nat × Array Value × TypeId)) (W : World) (n0 M B : Nat) (E : List En) (Y : World) : Prop := SB ls Y ∧ StB n0 M Y B 1048576 E ∧ Below W.heap.size W Y ∧ ∀ d ∈ ds, d < M ∧ Y.heap[d]? = some (.deferred (some []))
section
variable {ds : List Nat} {ls : List (Nat × Array Value × TypeId)} {W : World} {n0 M B : Nat} {E : List En} {A C : World}
theorem StJ.own {D : Nat} {row : Option Nat} (h : StJ ds ls W n0 M B E A) (hg : A.grownBy C row) (hr : CalmRow D A row) (hM : M ≤ D) (hz : W.heap.size ≤ D) : StJ ds ls W n0 M B E C :=
  ⟨h.1.own hg hr, h.2.1.own hg hr hM, own_below hg hr (Nat.le_refl _) hz h.2.2.1, fun d hd => ⟨(h.2.2.2 d hd).1, (hg.block d (Array.getElem?_eq_some_iff.1 (h.2.2.2 d hd).2).1 (fun e => by have h1 := (hr d e.symm).1; have h2 := (h.2.2.2 d hd).1; omega)).trans (h.2.2.2 d hd).2⟩⟩
theorem StJ.kpl {ts : List TypeId} {n : Nat} (h : StJ ds ls W n0 M B E A) (k : KpL ts n A C) (ht : ∀ p ∈ ls, p.2.2 ∉ ts) (h1 : 116 ∉ ts) (h2 : 122 ∉ ts) (hz : W.heap.size ≤ n) : StJ ds ls W n0 M B E C :=
  ⟨h.1.kpl k ht, h.2.1.kpl k h1 h2, h.2.2.1.trans (k.below.mono hz), fun d hd => ⟨(h.2.2.2 d hd).1, k.others.same _ _ (h.2.2.2 d hd).2 rfl⟩⟩
theorem StJ.below (h : StJ ds ls W n0 M B E A) (b : Below A.heap.size A C) : StJ ds ls W n0 M B E C :=
  ⟨h.1.below b, h.2.1.kpl (KpL.of (ts := []) b (Nat.le_refl _)) (by simp) (by simp), h.2.2.1.trans (b.mono h.2.2.1.size), fun d hd => ⟨(h.2.2.2 d hd).1, (b.block d (Array.getElem?_eq_some_iff.1 (h.2.2.2 d hd).2).1).trans (h.2.2.2 d hd).2⟩⟩
theorem StJ.set (h : StJ ds ls W n0 M B E A) {g : Nat} {cs : Array Value} {t : TypeId} (hk : A.heap[g]? = some (.cells cs t (0, 0))) (h1 : t ≠ 116) (h2 : t ≠ 122) (ha : ∀ p ∈ ls, p.1 ≠ g) (hz : W.heap.size ≤ g) (v : Value) : StJ ds ls W n0 M B E (A.setCell ⟨g, 0, none⟩ v) :=
  ⟨h.1.set v ha, h.2.1.kpl (KpL.set (ts := [t]) (KpL.of (n := 0) (Below.refl _ _) (Nat.zero_le _)) (p := ⟨g, 0, none⟩) hk (by simp) (Nat.zero_le _) v) (by simpa using Ne.symm h1) (by simpa using Ne.symm h2), h.2.2.1.setCell (p := ⟨g, 0, none⟩) hz v, fun d hd => ⟨(h.2.2.2 d hd).1, set_other (fun e => by have h3 := (h.2.2.2 d hd).2; rw [e, hk] at h3; cases h3) (h.2.2.2 d hd).2⟩⟩
theorem StJ.b {M' : Nat} (h : StJ ds ls W n0 M B E A) (hM : A.heap.size ≤ M') : StJ ds ls W n0 M' B E A := ⟨h.1, h.2.1.st.b hM, h.2.2.1, fun d hd => ⟨Nat.lt_of_lt_of_le (Array.getElem?_eq_some_iff.1 (h.2.2.2 d hd).2).1 hM, (h.2.2.2 d hd).2⟩⟩
theorem StJ.mark (h : StJ ds ls W n0 M B E A) {D : Nat} (hD : A.heap[D]? = some (.deferred (some []))) (hM : A.heap.size ≤ M) : StJ (D :: ds) ls W n0 M B E A := ⟨h.1, h.2.1, h.2.2.1, fun d hd => by
  rcases List.mem_cons.1 hd with rfl | hd
  · exact ⟨Nat.lt_of_lt_of_le (Array.getElem?_eq_some_iff.1 hD).1 hM, hD⟩
  · exact h.2.2.2 d hd⟩
end
set_option maxRecDepth 100000 in
set_option maxHeartbeats 8000000 in
theorem stops_any {W : World} {v : Value} {L : List Stp} (hL : RowStp W v L) (x : Int) {k : Nat} (hk : k ≤ 255) :
    Calls Try.prog 9 #[v, .int .i64 x, .int .u8 k] W fun e w' => e = .returned (.bool true) ∧ Below W.heap.size W w' := by
  have HF : ∀ f, Fence.wide.fn f := fun _ => trivial
  obtain ⟨W0, hW0⟩ : ∃ w, (W.alloc (.cells #[.int .i64 x] 3)).alloc (.cells #[.bool false] 4) = w := ⟨_, rfl⟩
  have n4 : W0.heap[W.heap.size]? = some (.cells #[.int .i64 x] 3 (0, 0)) := by rw [← hW0]; exact (Below.heap_alloc _ _ _ (by simp)).trans (heap_new' _ _)
  have n6 : W0.heap[W.heap.size + 1]? = some (.cells #[.bool false] 4 (0, 0)) := by
    rw [← hW0]; have := heap_new' (W.alloc (.cells #[.int .i64 x] 3)) (.cells #[.bool false] 4); rwa [World.size_alloc] at this
  have hb0 : Below W.heap.size W W0 := by rw [← hW0]; exact ((Below.refl _ W).alloc (Nat.le_refl _) _).alloc (by simp) _
  have HBD := Lib.hid (build14_any (hL.under hb0 (Nat.le_refl _)))
  obtain ⟨g6, hg6⟩ : ∃ y, W.heap.size + 1 = y := ⟨_, rfl⟩
  rw [hg6] at n6
  have HG6 : Hid (W.heap.size ≤ g6) := Lib.hid (by omega)
  have HN4 := Lib.hid n4; have HN6 := Lib.hid n6; have HB0 := Lib.hid hb0
  clear n4 n6 hb0 hL
  refine (callsIn_wide (n := 9)).1 ?_
  refine callsIn_of_wp_marks Try.func9 rfl trivial ?_ rfl
  simp only [Try.ntmps9, List.size_toArray, List.length_cons, List.length_nil, Nat.reduceAdd, Nat.reduceSub, Array.replicate_succ, Array.replicate_zero, List.push_toArray, List.append_toArray, List.nil_append, List.cons_append]
  gi_wp2_with fail
  first | refine callsIn_wide.2 (HBD.out.mono ?_) | refine ⟨(fun h => by cases h), callsIn_wide.2 (HBD.out.mono ?_)⟩ | refine ⟨trivial, (fun h => by cases h), callsIn_wide.2 (HBD.out.mono ?_)⟩
  rintro e w1 ⟨B, E, ids, T, iv, lv, tv, rfl, s1, hwd, hEl, hil, hI, hT, hS, hO, b1⟩
  obtain ⟨ia, il, ic, rfl⟩ : ∃ a l c, iv = .slice a l c := by obtain ⟨a, c, h⟩ := hI.len; exact ⟨a, _, c, h⟩
  obtain ⟨la, ll, lc, rfl⟩ : ∃ a l c, lv = .slice a l c := by obtain ⟨a, c, h⟩ := hT.len; exact ⟨a, _, c, h⟩
  obtain ⟨ta, tl', tc, rfl⟩ : ∃ a l c, tv = .slice a l c := by obtain ⟨a, c, h⟩ := hS.len; exact ⟨a, _, c, h⟩
  obtain ⟨wz2, w2, hz2, hs2, k7, b2, z7⟩ := newMd w1 B (.slice ia il ic) (.slice la ll lc) (.slice ta tl' tc)
  obtain ⟨g7, hg7⟩ : ∃ y, w1.heap.size = y := ⟨_, rfl⟩
  rw [hg7] at hs2 k7 z7
  obtain ⟨⟨p0, p1, p2, p3⟩, q0, q1, q2, q3⟩ := z7.cells
  have HLA := Lib.hid (last_any (B := B) (SlA.below hI b2) (SlA.below hT b2) (SlA.below hS b2) (hO.keep (KeepT.below b2)) hil)
  obtain ⟨c0, c1, c2, c3⟩ := k7.cells
  have HB2 := Lib.hid (Below.after b1 b2)
  have HN4b := Lib.hid (below_block HB2.out HN4.out); have HN6b := Lib.hid (below_block HB2.out HN6.out)
  have HM2 := Lib.hid k7; have HS2 := Lib.hid (s1.below b2); have HW := Lib.hid hwd.wf
  have HEL := Lib.hid (show E.length ≤ 1048576 by omega)
  clear b1 b2 s1 hwd hEl hil hI hT hS hO k7 z7 HBD HN4 HN6
  gi_wp2_with fail
  first | refine callsIn_wide.2 (HLA.out.mono ?_) | refine ⟨(fun h => by cases h), callsIn_wide.2 (HLA.out.mono ?_)⟩ | refine ⟨trivial, (fun h => by cases h), callsIn_wide.2 (HLA.out.mono ?_)⟩
  rintro e w3 ⟨id, ⟨ua, ul, uc⟩, rfl, hid, hbal, hul, hby, b3⟩
  obtain ⟨kn, hkn⟩ : ∃ y, decide ((txt E id).length ≤ 4096) = y := ⟨_, rfl⟩
  rw [hkn]
  obtain ⟨tl, htl⟩ : ∃ y, (txt E id).length = y := ⟨_, rfl⟩
  rw [htl] at hkn ⊢
  have hlb := (HW.out.len hid).2
  rw [htl] at hlb
  obtain ⟨wz4, w4, hz4, hs4, k9, b4, z9, f9⟩ := newBx w3 31 (.int .i64 0) (.int .i64 id)
  obtain ⟨g9, hg9⟩ : ∃ y, w3.heap.size = y := ⟨_, rfl⟩
  rw [hg9] at hs4 k9 z9 f9
  have HAW := Lib.hid (awake17_any w4)
  have HBa := Lib.hid (Below.after b3 b4)
  have HN4c := Lib.hid (below_block HBa.out HN4b.out); have HN6c := Lib.hid (below_block HBa.out HN6b.out)
  have HM4 := Lib.hid (show McC w4 g7 B (.slice ia il ic) (.slice la ll lc) (.slice ta tl' tc) from below_block HBa.out HM2.out)
  have HS4 := Lib.hid (HS2.out.below HBa.out)
  have HK9 := Lib.hid k9
  have HTL := Lib.hid htl; have HID := Lib.hid hid; have HLB := Lib.hid hlb
  clear b3 b4 k9 hul hby hkn htl hid hbal hlb HLA HN4b HN6b HM2 HS2
  gi_wp2_with fail
  first | refine callsIn_wide.2 (HAW.out.mono ?_) | refine ⟨(fun h => by cases h), callsIn_wide.2 (HAW.out.mono ?_)⟩ | refine ⟨trivial, (fun h => by cases h), callsIn_wide.2 (HAW.out.mono ?_)⟩
  rintro e w5 ⟨rfl, b5⟩
  have HN4d := Lib.hid (below_block b5 HN4c.out); have HN6d := Lib.hid (below_block b5 HN6c.out)
  have HM5 := Lib.hid (show McC w5 g7 B (.slice ia il ic) (.slice la ll lc) (.slice ta tl' tc) from below_block b5 HM4.out)
  have HS5 := Lib.hid (HS4.out.below b5)
  have HK9b := Lib.hid (below_block b5 HK9.out)
  have HBW : Hid (Below W.heap.size W w5) := Lib.hid (Below.after HB0.out (Below.after HB2.out (Below.after HBa.out b5)))
  have c4 : w5.cell? ⟨W.heap.size, 0, none⟩ = some (.int .i64 x) := by have := HN4d.out; simp [World.cell?, this]
  have f4 : w5.frozen? ⟨W.heap.size, 0, none⟩ = false := by have := HN4d.out; simp [World.frozen?, this]
  have HOF := Lib.hid (offset_any w5 x (n := tl) HLB.out)
  clear b5 HAW HN4c HN6c HM4 HS4 HK9 HBa hz2 hs2 p0 p1 p2 p3 q0 q1 q2 q3 c0 c1 c2 c3 hz4 hs4 z9 f9 hW0
  gi_wp2_with fail
  first | refine callsIn_wide.2 (HOF.out.mono ?_) | refine ⟨(fun h => by cases h), callsIn_wide.2 (HOF.out.mono ?_)⟩ | refine ⟨trivial, (fun h => by cases h), callsIn_wide.2 (HOF.out.mono ?_)⟩
  rintro e w6x ⟨fr, rfl, hfr, hw6x⟩
  rw [hw6x]
  clear hw6x w6x
  have HFR := Lib.hid hfr
  obtain ⟨w6, hw6⟩ : ∃ y, w5.setCell ⟨W.heap.size, 0, none⟩ (.int .i64 fr) = y := ⟨_, rfl⟩
  have hk6 : ∀ t, t ≠ 3 → KeepT t w5 w6 := fun t ht => by rw [← hw6]; exact KeepT.setCell (a := ⟨W.heap.size, 0, none⟩) HN4d.out (Ne.symm ht)
  have k4 : w6.heap[W.heap.size]? = some (.cells #[.int .i64 fr] 3 (0, 0)) := by rw [← hw6]; exact heap_set0 _ HN4d.out
  have s6 : StAt W0.heap.size w6 B 1048576 E := by rw [← hw6]; exact StAt.set HS5.out HN4d.out (by decide) (by decide) _
  have k6 : w6.heap[g6]? = some (.cells #[.bool false] 4 (0, 0)) := hk6 _ (by decide) _ _ _ HN6d.out
  have k7 : McC w6 g7 B (.slice ia il ic) (.slice la ll lc) (.slice ta tl' tc) := HM5.out.keep (hk6 _ (by decide))
  have k9 : w6.heap[g9]? = some (.cells #[.int .i64 id] 31 (0, 0)) := hk6 _ (by decide) _ _ _ HK9b.out
  have bw6 : Below W.heap.size W w6 := by rw [← hw6]; exact HBW.out.setCell (p := ⟨W.heap.size, 0, none⟩) (Nat.le_refl _) _
  obtain ⟨m, hm⟩ : ∃ y, k % 20 = y := ⟨_, rfl⟩
  have hm20 : m < 20 := by rw [← hm]; exact Nat.mod_lt _ (by omega)
  have hrm : Int.tmod (k : Int) 20 = (m : Int) := by rw [← hm]; rfl
  obtain ⟨wz7, w7, hz7, hs7, k13, b7, z13, f13⟩ := newBx w6 3 (.int .i64 0) (.int .i64 m)
  obtain ⟨g13, hg13⟩ : ∃ y, w6.heap.size = y := ⟨_, rfl⟩
  rw [hg13] at hs7 k13 z13 f13
  obtain ⟨wz8, wy8, wx8, w8, hz8, hy8, hx8, hs8, e14, ⟨z14, f14⟩, ⟨z15, f15⟩, ⟨k14, k15⟩, b8⟩ := newTwo w7
  obtain ⟨g14, hg14⟩ : ∃ y, w7.heap.size = y := ⟨_, rfl⟩
  rw [hg14] at hx8 hs8 e14 z14 f14 z15 f15 k14 k15
  have b68 := Below.after b7 b8
  have HSB : Hid (SB [(W.heap.size, #[.int .i64 fr], 3), (g6, #[.bool false], 4), (g7, #[.pointer (some ⟨B, 0, none⟩), .slice ia il ic, .slice la ll lc, .slice ta tl' tc], 28), (g9, #[.int .i64 id], 31), (g13, #[.int .i64 m], 3)] w8) := Lib.hid (by
    intro p hp
    simp only [List.mem_cons, List.not_mem_nil, or_false] at hp
    rcases hp with rfl | rfl | rfl | rfl | rfl
    · exact below_block b68 k4
    · exact below_block b68 k6
    · exact below_block b68 k7
    · exact below_block b68 k9
    · exact below_block b8 k13)
  have s8 := s6.below b68
  have HS8 := Lib.hid s8
  have HK14 := Lib.hid k14; have HK15 := Lib.hid k15
  have HBW8 : Hid (Below W.heap.size W w8) := Lib.hid (bw6.trans (b68.mono bw6.size))
  have HFR := Lib.hid hfr; have HM20 := Lib.hid hm20
  have hmw : IntKind.i64.wrap (m : Int) = (m : Int) := by rw [IntKind.wrap_i64]; omega
  have HG13 : Hid (g13 = w6.heap.size) := Lib.hid hg13.symm
  have HSB7 : Hid (SB [(W.heap.size, #[.int .i64 fr], 3), (g6, #[.bool false], 4), (g7, #[.pointer (some ⟨B, 0, none⟩), .slice ia il ic, .slice la ll lc, .slice ta tl' tc], 28), (g9, #[.int .i64 id], 31), (g13, #[.int .i64 m], 3)] w7) := Lib.hid (by
    intro p hp
    simp only [List.mem_cons, List.not_mem_nil, or_false] at hp
    rcases hp with rfl | rfl | rfl | rfl | rfl
    · exact below_block b7 k4
    · exact below_block b7 k6
    · exact below_block b7 k7
    · exact below_block b7 k9
    · exact k13)
  have HG14e := Lib.hid hg14
  have HG14 : Hid (W.heap.size ≤ g14) := Lib.hid (by rw [← hg14]; exact Nat.le_trans bw6.size b7.size)
  have HLS := Lib.hid (letters_seq s8 HW.out HEL.out HID.out (frm := fr) (by rw [HTL.out]; exact hfr))
  have d7 : w8.cell? ⟨g7, 0, none⟩ = some (.pointer (some ⟨B, 0, none⟩)) := (HSB.out.cell (g := g7) (cs := #[.pointer (some ⟨B, 0, none⟩), .slice ia il ic, .slice la ll lc, .slice ta tl' tc]) (t := 28) (by simp) 0).1
  have d9 : w8.cell? ⟨g9, 0, none⟩ = some (.int .i64 id) := (HSB.out.cell (g := g9) (cs := #[.int .i64 id]) (t := 31) (by simp) 0).1
  have d4 : w8.cell? ⟨W.heap.size, 0, none⟩ = some (.int .i64 fr) := (HSB.out.cell (g := W.heap.size) (cs := #[.int .i64 fr]) (t := 3) (by simp) 0).1
  clear hk6 k4 s6 k6 k7 k9 bw6 hm k13 b7 b8 b68 k14 k15 s8 hfr HOF HK9b HM5 HS5 HN4d HN6d HBW
  -- behind the offset (mkstops.py)
  gi_wp2_with fail
  first | refine callsIn_wide.2 (HLS.out.mono ?_) | refine ⟨(fun h => by cases h), callsIn_wide.2 (HLS.out.mono ?_)⟩ | refine ⟨trivial, (fun h => by cases h), callsIn_wide.2 (HLS.out.mono ?_)⟩
  rintro e w9 ⟨vq, rfl, ⟨gf, lb, rfl, hen, hst⟩, b9⟩
  clear hg13 hg14 hm20 hmw hz7 hs7 hz8 hy8 hx8 hs8 e14 z14 z15 f14 f15 z13 f13 hrm hw6
  obtain ⟨ls, hls⟩ : ∃ l : List (Nat × Array Value × TypeId), [(W.heap.size, #[.int .i64 fr], 3), (g6, #[.bool false], 4), (g7, #[.pointer (some ⟨B, 0, none⟩), .slice ia il ic, .slice la ll lc, .slice ta tl' tc], 28), (g9, #[.int .i64 id], 31), (g13, #[.int .i64 m], 3)] = l := ⟨_, rfl⟩
  rw [hls] at HSB HSB7
  have HLT : Hid (∀ p ∈ ls, ∀ g, (g = g14 ∨ g = g14 + 1) → p.1 ≠ g) := Lib.hid (fun p hp g hg => by
    have h1 := (Array.getElem?_eq_some_iff.1 (HSB7.out p hp)).1
    have h2 := HG14e.out
    omega)
  have HCL : Hid (∀ Y, SB ls Y → Y.cell? ⟨g7, 0, none⟩ = some (.pointer (some ⟨B, 0, none⟩)) ∧ Y.cell? ⟨g9, 0, none⟩ = some (.int .i64 id) ∧ Y.cell? ⟨W.heap.size, 0, none⟩ = some (.int .i64 fr) ∧ Y.cell? ⟨g13, 0, none⟩ = some (.int .i64 m) ∧ Y.heap[g6]? = some (.cells #[.bool false] 4 (0, 0)) ∧ True) := Lib.hid (fun Y hY => by
    subst hls
    exact ⟨(hY.cell (g := g7) (cs := #[.pointer (some ⟨B, 0, none⟩), .slice ia il ic, .slice la ll lc, .slice ta tl' tc]) (t := 28) (by simp) 0).1, (hY.cell (g := g9) (cs := #[.int .i64 id]) (t := 31) (by simp) 0).1, (hY.cell (g := W.heap.size) (cs := #[.int .i64 fr]) (t := 3) (by simp) 0).1, (hY.cell (g := g13) (cs := #[.int .i64 m]) (t := 3) (by simp) 0).1, hY (g6, #[.bool false], 4) (by simp), trivial⟩)
  have HTY : Hid (∀ p ∈ ls, p.2.2 ∉ CpT) := Lib.hid (fun p hp => by
    subst hls
    simp only [List.mem_cons, List.not_mem_nil, or_false] at hp
    rcases hp with rfl | rfl | rfl | rfl | rfl <;> (dsimp only; decide))
  clear hls HSB7
  have HEN := Lib.hid hen; have HST := Lib.hid hst
  have HJ8 : Hid (StJ [] ls W W0.heap.size w8.heap.size B E w8) := Lib.hid ⟨HSB.out, HS8.out.b (Nat.le_refl _), HBW8.out, by simp⟩
  have HJ : Hid (StJ [] ls W W0.heap.size w9.heap.size B E w9) := Lib.hid ((HJ8.out.below b9).b (Nat.le_refl _))
  have H14 := Lib.hid (below_block b9 HK14.out); have H15 := Lib.hid (below_block b9 HK15.out)
  have HWZ : Hid (W.heap.size ≤ w9.heap.size) := Lib.hid HJ.out.2.2.1.size
  obtain ⟨g15, hg15⟩ : ∃ y, g14 + 1 = y := ⟨_, rfl⟩
  rw [hg15] at H15 HLT ⊢
  have HG1 : Hid (g14 < g15) := Lib.hid (by omega)
  have HG15 : Hid (W.heap.size ≤ g15) := Lib.hid (by have := HG14.out; omega)
  have HG15e := Lib.hid hg15
  have HG69 : Hid (g6 < w9.heap.size) := Lib.hid (Array.getElem?_eq_some_iff.1 (HCL.out w9 HJ.out.1).2.2.2.2.1).1
  clear hen hst b9 HLS HK14 HK15 HJ8 HS8 HSB HBW8 d7 d9 d4 hg15
  gi_wp2_with fail
  refine wpIn_rangeFunc_T rfl (by omega) (gf := gf) (lb := lb) rfl trivial HEN.out (HST.out 8) KpI.trans (fun X l o o' hl ho hc _ => KpI.put X l o o' hl ho hc) (Below.refl _ _) (fun _ => rfl)
    (fun pre Y => StJ [] ls W W0.heap.size w9.heap.size B E Y ∧ Y.heap[g14]? = some (.cells #[.int .i64 (pre.length : Nat)] 3 (0, 0)) ∧ Y.heap[g15]? = some (.cells #[.int .i64 0] 3 (0, 0)) ∧ pre.length ≤ m)
    (fun c pre Y => c = .exit 0 ∧ StJ [] ls W W0.heap.size w9.heap.size B E Y ∧ Y.heap[g14]? = some (.cells #[.int .i64 m] 3 (0, 0)) ∧ Y.heap[g15]? = some (.cells #[.int .i64 0] 3 (0, 0)) ∧ pre.length = m + 1)
    (fun s A C row hs hg hr => ⟨hs.1.own hg hr (Nat.le_refl _) HWZ.out, own_cells hg hr hs.2.1, own_cells hg hr hs.2.2.1, hs.2.2.2⟩)
    (fun c s A C row hs hg hr => ⟨hs.1, hs.2.1.own hg hr (Nat.le_refl _) HWZ.out, own_cells hg hr hs.2.2.1, own_cells hg hr hs.2.2.2.1, hs.2.2.2.2⟩)
    (fun s A C hs h => ⟨hs.1.kpl h HTY.out (by decide) (by decide) HWZ.out, h.cells _ (by decide) _ _ _ hs.2.1, h.cells _ (by decide) _ _ _ hs.2.2.1, hs.2.2.2⟩)
    (fun c s A C hs h => ⟨hs.1, hs.2.1.kpl h HTY.out (by decide) (by decide) HWZ.out, h.cells _ (by decide) _ _ _ hs.2.2.1, h.cells _ (by decide) _ _ _ hs.2.2.2.1, hs.2.2.2.2⟩)
    ⟨HJ.out, H14.out, H15.out, Nat.zero_le _⟩ ?round ?done ?stop
  case round =>
    intro l pre x Y Yb K hI hlen hK
    have HF : ∀ f, (Fence.wide.inRound l).fn f := fun _ => trivial
    have HK := Lib.hid hK
    clear hK
    gi_wp2_with fail
    refine HK.out _ ?_
    clear HK
    obtain ⟨h1, h2, h3, h4⟩ := hI
    obtain ⟨e7, e9, e4, e13, -, -⟩ := HCL.out Yb h1.1
    have cg : Yb.cell? ⟨g14, 0, none⟩ = some (.int .i64 (pre.length : Nat)) := by simp [World.cell?, h2]
    have HNX := Lib.hid (lzs_next hlen)
    clear hlen
    by_cases hpm : pre.length = m
    · have hb : ((pre.length : Int) == (m : Int)) = true := by simp [hpm]
      have HFIN := Lib.hid (And.intro h1 (And.intro h2 h3))
      clear h1 h2 h3
      gi_wp2_with fail
      obtain ⟨h1, h2, h3⟩ := HFIN.out
      exact ⟨KeepsOthers.refl _, rfl, h1, by rw [← hpm]; exact h2, h3, by rw [List.length_append, List.length_singleton, hpm]⟩
    · have hb : ((pre.length : Int) == (m : Int)) = false := by simp; omega
      obtain ⟨n, hn⟩ : ∃ y, pre.length = y := ⟨_, rfl⟩
      obtain ⟨x1, x2⟩ := x
      dsimp only at HNX
      rw [hn] at h2 h4 hpm hb cg HNX
      have HAT := Lib.hid (at_some h1.2.1.st HW.out HEL.out HID.out (k := x1) (b := x2) (by have h := HNX.out; rw [h.1]; exact h.2.2))
      have HJR := Lib.hid h1; have H2 := Lib.hid h2; have H3 := Lib.hid h3; have HM4 := Lib.hid h4; have HN := Lib.hid hn
      have HPM : Hid (n + 1 ≤ m) := Lib.hid (by omega)
      clear h1 h2 h3 h4 hn hpm
      gi_wp2_with fail
      first | refine callsIn_wide.2 (HAT.out.mono ?_) | refine CallsIn.inRound l (callsIn_wide.2 (HAT.out.mono ?_)) | refine ⟨(fun h => by cases h), CallsIn.inRound l (callsIn_wide.2 (HAT.out.mono ?_))⟩ | refine ⟨trivial, (fun h => by cases h), CallsIn.inRound l (callsIn_wide.2 (HAT.out.mono ?_))⟩
      rintro e Yc ⟨rfl, bc⟩
      have hj := HJR.out.below bc
      obtain ⟨f7, f9, f4, f13, -, -⟩ := HCL.out Yc hj.1
      have k2 := below_block bc H2.out; have k3 := below_block bc H3.out
      have cg2 : Yc.cell? ⟨g14, 0, none⟩ = some (.int .i64 n) := by simp [World.cell?, k2]
      have fg2 : Yc.frozen? ⟨g14, 0, none⟩ = false := by simp [World.frozen?, k2]
      obtain ⟨Yd, hYd⟩ : ∃ y, Yc.setCell ⟨g14, 0, none⟩ (.int .i64 ((n : Int) + 1)) = y := ⟨_, rfl⟩
      have HFIN : Hid (StJ [] ls W W0.heap.size w9.heap.size B E Yd ∧ Yd.heap[g14]? = some (.cells #[.int .i64 (((pre ++ [(x1, x2)]).length : Nat) : Int)] 3 (0, 0)) ∧ Yd.heap[g15]? = some (.cells #[.int .i64 0] 3 (0, 0)) ∧ KeepsOthers Yb Yd ∧ (∀ t, t ≠ 3 → KeepT t Yb Yd)) := Lib.hid (by
        rw [← hYd]
        refine ⟨hj.set k2 (by decide) (by decide) (fun p hp => HLT.out p hp g14 (.inl rfl)) HG14.out _, ?_, set_other (by have := HG1.out; omega) k3, keepsOthers_setCell (keepsOthers_below bc) _ _, fun t ht => (KeepT.below bc).trans (KeepT.setCell (a := ⟨g14, 0, none⟩) k2 (Ne.symm ht))⟩
        rw [List.length_append, List.length_singleton, HN.out]; exact heap_set0 _ k2)
      have hpw : IntKind.i64.wrap ((n : Int) + 1) = (n : Int) + 1 := by rw [IntKind.wrap_i64]; have := HM4.out; have := HM20.out; omega
      have hs1 : IntKind.i64.wrap ((fr : Int) + (n : Int)) = ((x1 : Nat) : Int) := by rw [IntKind.wrap_i64]; have h0 := HNX.out.1; have h1 := HNX.out.2.1; have h2 := HTL.out; have h3 := HLB.out; omega
      clear hj k2 k3 bc HJR H2 H3 HAT cg e7 e9 e4 e13
      gi_wp2_with fail
      obtain ⟨k1, k2, k3, k4, k5⟩ := HFIN.out
      exact ⟨k4, KpI.of_others (fun t ht => k5 t (by intro e; subst e; revert ht; decide)) k4, k1, k2, k3, by rw [List.length_append, List.length_singleton, HN.out]; exact HPM.out⟩
  case' done =>
    rintro D xs Y hD rfl ⟨hj, h14, h15, hml⟩ hDc
    have HAH : Hid ((lzs ((txt E id).drop fr) fr).length = min (tl - fr) m) := Lib.hid (by
      rw [lzs_length, List.length_drop, HTL.out] at hml ⊢; omega)
    obtain ⟨ah, hah⟩ : ∃ y, (lzs ((txt E id).drop fr) fr).length = y := ⟨_, rfl⟩
    rw [hah] at h14 HAH
    clear hml hah
  case' stop =>
    rintro D c pre Y hD hpre ⟨rfl, hj, h14, h15, hml⟩ hDc
    have HAH : Hid (m = min (tl - fr) m) := Lib.hid (by
      have h := hpre.length_le
      rw [lzs_length, List.length_drop, HTL.out] at h; omega)
    obtain ⟨ah, hah⟩ : ∃ y, m = y := ⟨_, rfl⟩
    have h14 : Y.heap[g14]? = some (.cells #[.int .i64 ah] 3 (0, 0)) := by rw [← hah]; exact h14
    have HAH : Hid (ah = min (tl - fr) m) := Lib.hid (by rw [← hah]; exact HAH.out)
    clear hml hah hpre
  all_goals
    have HMD : Hid (w9.heap.size ≤ D ∧ D < Y.heap.size) := Lib.hid ⟨hD, (Array.getElem?_eq_some_iff.1 hDc).1⟩
    have HJ2 : Hid (StJ [D] ls W W0.heap.size Y.heap.size B E Y) := Lib.hid ((hj.b (Nat.le_refl _)).mark hDc (Nat.le_refl _))
    have H14b := Lib.hid h14; have H15b := Lib.hid h15
    have HBK := Lib.hid (back_seq hj.2.1.st HW.out HEL.out HID.out (frm := fr) (by rw [HTL.out]; exact HFR.out))
    obtain ⟨e7, e9, e4, e13, -, -⟩ := HCL.out Y hj.1
    clear hj h14 h15 hDc hD HEN HST HJ H14 H15
    gi_wp2_with fail
    first | refine callsIn_wide.2 (HBK.out.mono ?_) | refine ⟨(fun h => by cases h), callsIn_wide.2 (HBK.out.mono ?_)⟩ | refine ⟨trivial, (fun h => by cases h), callsIn_wide.2 (HBK.out.mono ?_)⟩
    rintro e wb ⟨vq, rfl, ⟨gf, lb, rfl, hen, hst⟩, bb⟩
    have HEN := Lib.hid hen; have HST := Lib.hid hst
    have HJ : Hid (StJ [D] ls W W0.heap.size wb.heap.size B E wb) := Lib.hid ((HJ2.out.below bb).b (Nat.le_refl _))
    have H14 := Lib.hid (below_block bb H14b.out); have H15 := Lib.hid (below_block bb H15b.out)
    have HDB : Hid (D < wb.heap.size) := Lib.hid (Nat.lt_of_lt_of_le HMD.out.2 bb.size)
    have HWZ9 := HWZ
    have HWZ : Hid (W.heap.size ≤ wb.heap.size) := Lib.hid HJ.out.2.2.1.size
    clear hen hst bb HBK HJ2 H14b H15b e7 e9 e4 e13
    gi_wp2_with fail
    refine wpIn_rangeFunc_T rfl (by omega) (gf := gf) (lb := lb) rfl trivial HEN.out (HST.out 8) KpI.trans (fun X l o o' hl ho hc _ => KpI.put X l o o' hl ho hc) (Below.refl _ _) (fun _ => rfl)
      (fun pre Y => StJ [D] ls W W0.heap.size wb.heap.size B E Y ∧ Y.heap[g15]? = some (.cells #[.int .i64 (pre.length : Nat)] 3 (0, 0)) ∧ Y.heap[g14]? = some (.cells #[.int .i64 ah] 3 (0, 0)) ∧ pre.length ≤ m)
      (fun c pre Y => c = .exit 2 ∧ StJ [D] ls W W0.heap.size wb.heap.size B E Y ∧ Y.heap[g15]? = some (.cells #[.int .i64 m] 3 (0, 0)) ∧ Y.heap[g14]? = some (.cells #[.int .i64 ah] 3 (0, 0)) ∧ pre.length = m + 1)
      (fun s A C row hs hg hr => ⟨hs.1.own hg hr (Nat.le_refl _) HWZ.out, own_cells hg hr hs.2.1, own_cells hg hr hs.2.2.1, hs.2.2.2⟩)
      (fun c s A C row hs hg hr => ⟨hs.1, hs.2.1.own hg hr (Nat.le_refl _) HWZ.out, own_cells hg hr hs.2.2.1, own_cells hg hr hs.2.2.2.1, hs.2.2.2.2⟩)
      (fun s A C hs h => ⟨hs.1.kpl h HTY.out (by decide) (by decide) HWZ.out, h.cells _ (by decide) _ _ _ hs.2.1, h.cells _ (by decide) _ _ _ hs.2.2.1, hs.2.2.2⟩)
      (fun c s A C hs h => ⟨hs.1, hs.2.1.kpl h HTY.out (by decide) (by decide) HWZ.out, h.cells _ (by decide) _ _ _ hs.2.2.1, h.cells _ (by decide) _ _ _ hs.2.2.2.1, hs.2.2.2.2⟩)
      ⟨HJ.out, H15.out, H14.out, Nat.zero_le _⟩ ?_ ?_ ?_
    · intro l pre x Y Yb K hI hlen hK
      have HF : ∀ f, (Fence.wide.inRound l).fn f := fun _ => trivial
      have HK := Lib.hid hK
      clear hK
      gi_wp2_with fail
      refine HK.out _ ?_
      clear HK
      obtain ⟨h1, h2, h3, h4⟩ := hI
      obtain ⟨e7, e9, e4, e13, -, -⟩ := HCL.out Yb h1.1
      have cg : Yb.cell? ⟨g15, 0, none⟩ = some (.int .i64 (pre.length : Nat)) := by simp [World.cell?, h2]
      have HNX := Lib.hid (lzs_prev (by rw [HTL.out]; exact HFR.out) hlen)
      clear hlen
      by_cases hpm : pre.length = m
      · have hb : ((pre.length : Int) == (m : Int)) = true := by simp [hpm]
        have HFIN := Lib.hid (And.intro h1 (And.intro h2 h3))
        clear h1 h2 h3
        gi_wp2_with fail
        obtain ⟨h1, h2, h3⟩ := HFIN.out
        exact ⟨KeepsOthers.refl _, rfl, h1, by rw [← hpm]; exact h2, h3, by rw [List.length_append, List.length_singleton, hpm]⟩
      · have hb : ((pre.length : Int) == (m : Int)) = false := by simp; omega
        obtain ⟨n, hn⟩ : ∃ y, pre.length = y := ⟨_, rfl⟩
        obtain ⟨x1, x2⟩ := x
        dsimp only at HNX
        rw [hn] at h2 h4 hpm hb cg HNX
        have HAT := Lib.hid (at_some h1.2.1.st HW.out HEL.out HID.out (k := x1) (b := x2) (by have h := HNX.out; rw [h.2.1]; exact h.2.2))
        have HJR := Lib.hid h1; have H2 := Lib.hid h2; have H3 := Lib.hid h3; have HM4 := Lib.hid h4; have HN := Lib.hid hn
        have HPM : Hid (n + 1 ≤ m) := Lib.hid (by omega)
        clear h1 h2 h3 h4 hn hpm
        gi_wp2_with fail
        first | refine callsIn_wide.2 (HAT.out.mono ?_) | refine CallsIn.inRound l (callsIn_wide.2 (HAT.out.mono ?_)) | refine ⟨(fun h => by cases h), CallsIn.inRound l (callsIn_wide.2 (HAT.out.mono ?_))⟩ | refine ⟨trivial, (fun h => by cases h), CallsIn.inRound l (callsIn_wide.2 (HAT.out.mono ?_))⟩
        rintro e Yc ⟨rfl, bc⟩
        have hj := HJR.out.below bc
        obtain ⟨f7, f9, f4, f13, -, -⟩ := HCL.out Yc hj.1
        have k2 := below_block bc H2.out; have k3 := below_block bc H3.out
        have cg2 : Yc.cell? ⟨g15, 0, none⟩ = some (.int .i64 n) := by simp [World.cell?, k2]
        have fg2 : Yc.frozen? ⟨g15, 0, none⟩ = false := by simp [World.frozen?, k2]
        obtain ⟨Yd, hYd⟩ : ∃ y, Yc.setCell ⟨g15, 0, none⟩ (.int .i64 ((n : Int) + 1)) = y := ⟨_, rfl⟩
        have HFIN : Hid (StJ [D] ls W W0.heap.size wb.heap.size B E Yd ∧ Yd.heap[g15]? = some (.cells #[.int .i64 (((pre ++ [(x1, x2)]).length : Nat) : Int)] 3 (0, 0)) ∧ Yd.heap[g14]? = some (.cells #[.int .i64 ah] 3 (0, 0)) ∧ KeepsOthers Yb Yd ∧ (∀ t, t ≠ 3 → KeepT t Yb Yd)) := Lib.hid (by
          rw [← hYd]
          refine ⟨hj.set k2 (by decide) (by decide) (fun p hp => HLT.out p hp g15 (.inr rfl)) HG15.out _, ?_, set_other (by have := HG1.out; omega) k3, keepsOthers_setCell (keepsOthers_below bc) _ _, fun t ht => (KeepT.below bc).trans (KeepT.setCell (a := ⟨g15, 0, none⟩) k2 (Ne.symm ht))⟩
          rw [List.length_append, List.length_singleton, HN.out]; exact heap_set0 _ k2)
        have hpw : IntKind.i64.wrap ((n : Int) + 1) = (n : Int) + 1 := by rw [IntKind.wrap_i64]; have := HM4.out; have := HM20.out; omega
        have hs0 : IntKind.i64.wrap ((fr : Int) - 1) = (fr : Int) - 1 := by rw [IntKind.wrap_i64]; have h1 := HNX.out.1; have h2 := HLB.out; have h3 := HFR.out; omega
        have hs1 : IntKind.i64.wrap ((fr : Int) - 1 - (n : Int)) = ((x1 : Nat) : Int) := by rw [IntKind.wrap_i64]; have h1 := HNX.out.1; have h4 := HNX.out.2.1; have h2 := HLB.out; have h3 := HFR.out; omega
        clear hj k2 k3 bc HJR H2 H3 HAT cg e7 e9 e4 e13
        gi_wp2_with fail
        obtain ⟨k1, k2, k3, k4, k5⟩ := HFIN.out
        exact ⟨k4, KpI.of_others (fun t ht => k5 t (by intro e; subst e; revert ht; decide)) k4, k1, k2, k3, by rw [List.length_append, List.length_singleton, HN.out]; exact HPM.out⟩
    · rintro D2 xs Z hD rfl ⟨hj, h15, h14, hml⟩ hDc
      have HBH : Hid ((lzs ((txt E id).take fr) 0).reverse.length = min fr m) := Lib.hid (by
        rw [List.length_reverse, lzs_length, List.length_take, HTL.out] at hml ⊢; have := HFR.out; omega)
      obtain ⟨bh, hbh⟩ : ∃ y, (lzs ((txt E id).take fr) 0).reverse.length = y := ⟨_, rfl⟩
      rw [hbh] at h15 HBH
      clear hml hbh
      have HMF : Hid (Marks w9.heap.size Z [{ target := .collected D2, args := #[] }, { target := .collected D, args := #[] }]) := Lib.hid (by
        have hdd : D < D2 := Nat.lt_of_lt_of_le HDB.out hD
        refine ⟨[D2, D], rfl, List.pairwise_cons.2 ⟨fun x hx => ?_, List.pairwise_singleton _ _⟩, fun x hx => ?_⟩
        · rw [List.mem_singleton.1 hx]; exact hdd
        · rcases List.mem_cons.1 hx with rfl | hx
          · exact ⟨Nat.le_trans HMD.out.1 (Nat.le_of_lt hdd), hDc⟩
          · rw [List.mem_singleton.1 hx]; exact ⟨HMD.out.1, (hj.2.2.2 D (by simp)).2⟩)
      have HJZ := Lib.hid hj
      have HZ14 := Lib.hid h14; have HZ15 := Lib.hid h15
      have HC1 : Hid (∀ w, Below Z.heap.size Z w → w.cell? ⟨g14, 0, none⟩ = some (.int .i64 ah) ∧ w.cell? ⟨g15, 0, none⟩ = some (.int .i64 bh) ∧ w.cell? ⟨W.heap.size, 0, none⟩ = some (.int .i64 fr) ∧ w.cell? ⟨g13, 0, none⟩ = some (.int .i64 m)) := Lib.hid (fun w hw => by
        have k1 := below_block hw HZ14.out; have k2 := below_block hw HZ15.out
        obtain ⟨-, -, e4, e13, -, -⟩ := HCL.out w (HJZ.out.1.below hw)
        exact ⟨by simp [World.cell?, k1], by simp [World.cell?, k2], e4, e13⟩)
      have c14 : ∀ w, Below Z.heap.size Z w → w.cell? ⟨g14, 0, none⟩ = some (.int .i64 ah) := fun w hw => (HC1.out w hw).1
      have c15 : ∀ w, Below Z.heap.size Z w → w.cell? ⟨g15, 0, none⟩ = some (.int .i64 bh) := fun w hw => (HC1.out w hw).2.1
      have c4 : ∀ w, Below Z.heap.size Z w → w.cell? ⟨W.heap.size, 0, none⟩ = some (.int .i64 fr) := fun w hw => (HC1.out w hw).2.2.1
      have c13 : ∀ w, Below Z.heap.size Z w → w.cell? ⟨g13, 0, none⟩ = some (.int .i64 m) := fun w hw => (HC1.out w hw).2.2.2
      have hs1 : IntKind.i64.wrap ((tl : Int) - (fr : Int)) = ((tl - fr : Nat) : Int) := by rw [IntKind.wrap_i64]; have h1 := HLB.out; have h2 := HFR.out; omega
      obtain ⟨df, hdf⟩ : ∃ y, tl - fr = y := ⟨_, rfl⟩
      have HAH2 : Hid (ah = min df m) := Lib.hid (by rw [← hdf]; exact HAH.out)
      rw [hdf] at hs1
      have hq1 : (if ((df : Nat) : Int) < 0 then (0 : Int) else if ((df : Nat) : Int) > (m : Int) then (m : Int) else ((df : Nat) : Int)) = (ah : Int) := by have := HAH2.out; split <;> (try split) <;> omega
      have hq2 : (if ((fr : Nat) : Int) < 0 then (0 : Int) else if ((fr : Nat) : Int) > (m : Int) then (m : Int) else ((fr : Nat) : Int)) = (bh : Int) := by have := HBH.out; split <;> (try split) <;> omega
      have HCA : Hid (∀ w, Calls Try.prog 32 #[.int .i64 ((df : Nat) : Int), .int .i64 0, .int .i64 m] w fun e w' => e = .returned (.int .i64 ah) ∧ w' = w) := Lib.hid (fun w => by have h := clipR_any w df 0 m; rwa [hq1] at h)
      have HCB : Hid (∀ w, Calls Try.prog 32 #[.int .i64 ((fr : Nat) : Int), .int .i64 0, .int .i64 m] w fun e w' => e = .returned (.int .i64 bh) ∧ w' = w) := Lib.hid (fun w => by have h := clipR_any w fr 0 m; rwa [hq2] at h)
      have HWZ2 := HWZ9
      clear hj h14 h15 hDc hD HEN HST HJ H14 H15 hq1 hq2 hdf HWZ
      gi_wp2_with fail
      refine wpIn_region_anyNP (Below Z.heap.size Z) (by kernel_rfl) ?_
      obtain ⟨Zd, hZd⟩ : ∃ y, Z.drew = y := ⟨_, rfl⟩
      have B0 : Below Z.heap.size Z Zd := by rw [← hZd]; exact (Below.refl _ _).drew
      rw [hZd]
      clear hZd
      refine AnyH.take (i := 0) (d := some 117) (v := ?_) (by kernel_rfl) rfl rfl HF (fun _ _ _ h => h) (.inl ⟨by rfl, ?_⟩) (by first | assumption | rfl) ?_
      rotate_left
      · intro w hS; try subst hS
        go_simp; try with_reducible rfl
      try simp only [Act.put, List.setIfInBounds_toArray, List.set_cons_zero, List.set_cons_succ]
      refine AnyH.take (i := 1) (d := some 118) (v := ?_) (by kernel_rfl) rfl rfl HF (fun _ _ _ h => h) (.inl ⟨by rfl, ?_⟩) (by first | assumption | rfl) ?_
      rotate_left
      · intro w hS; try subst hS
        go_simp; try with_reducible rfl
      try simp only [Act.put, List.setIfInBounds_toArray, List.set_cons_zero, List.set_cons_succ]
      refine AnyH.take (i := 2) (d := some 119) (v := ?_) (by kernel_rfl) rfl rfl HF (fun _ _ _ h => h) (.inl ⟨by rfl, ?_⟩) (by first | assumption | rfl) ?_
      rotate_left
      · intro w hS; try subst hS
        go_simp; try with_reducible rfl
      try simp only [Act.put, List.setIfInBounds_toArray, List.set_cons_zero, List.set_cons_succ]
      refine AnyH.take (i := 3) (d := some 120) (v := ?_) (by kernel_rfl) rfl rfl HF (fun _ _ _ h => h) (.inl ⟨by rfl, ?_⟩) (by first | assumption | rfl) ?_
      rotate_left
      · intro w hS; try subst hS
        go_simp; try with_reducible rfl
      try simp only [Act.put, List.setIfInBounds_toArray, List.set_cons_zero, List.set_cons_succ]
      refine AnyH.take (i := 4) (d := some 121) (v := ?_) (by kernel_rfl) rfl rfl HF (fun _ _ _ h => h) (.inl ⟨by rfl, ?_⟩) (by first | assumption | rfl) ?_
      rotate_left
      · intro w hS; try subst hS
        go_simp; try with_reducible rfl
      try simp only [Act.put, List.setIfInBounds_toArray, List.set_cons_zero, List.set_cons_succ]
      refine AnyH.one (i := 5) (by kernel_rfl) (by kernel_rfl) rfl HF (by rfl) (fun K hK => ?_)
      go_simp
      first | ((with_reducible refine And.intro ?hdep ?_); (case hdep => first | rfl | (intro h; cases h))) | skip
      first | refine callsIn_wide.2 ((HCA.out _).mono ?_) | refine ⟨(fun h => by cases h), callsIn_wide.2 ((HCA.out _).mono ?_)⟩ | refine ⟨trivial, (fun h => by cases h), callsIn_wide.2 ((HCA.out _).mono ?_)⟩
      rintro e w ⟨rfl, h⟩
      rw [h]
      clear h w
      refine hK _ _ B0 ?_
      clear hK K
      try simp only [Act.put, List.setIfInBounds_toArray, List.set_cons_zero, List.set_cons_succ]
      refine AnyH.take (i := 6) (d := some 123) (v := ?_) (by kernel_rfl) rfl rfl HF (fun _ _ _ h => h) (.inl ⟨by rfl, ?_⟩) (by first | assumption | rfl) ?_
      rotate_left
      · intro w hS; try subst hS
        go_simp; try with_reducible rfl
      try simp only [Act.put, List.setIfInBounds_toArray, List.set_cons_zero, List.set_cons_succ]
      refine AnyH.take (i := 7) (d := some 124) (v := ?_) (by kernel_rfl) rfl rfl HF (fun _ _ _ h => h) (.inl ⟨by rfl, ?_⟩) (by first | assumption | rfl) ?_
      rotate_left
      · intro w hS; try subst hS
        go_simp; try with_reducible rfl
      try simp only [Act.put, List.setIfInBounds_toArray, List.set_cons_zero, List.set_cons_succ]
      refine AnyH.take (i := 8) (d := some 125) (v := ?_) (by kernel_rfl) rfl rfl HF (fun _ _ _ h => h) (.inl ⟨by rfl, ?_⟩) (by first | assumption | rfl) ?_
      rotate_left
      · intro w hS; try subst hS
        go_simp; try with_reducible rfl
      try simp only [Act.put, List.setIfInBounds_toArray, List.set_cons_zero, List.set_cons_succ]
      refine AnyH.take (i := 9) (d := some 126) (v := ?_) (by kernel_rfl) rfl rfl HF (fun _ _ _ h => h) (.inl ⟨by rfl, ?_⟩) (by first | assumption | rfl) ?_
      rotate_left
      · intro w hS; try subst hS
        go_simp; try with_reducible rfl
      try simp only [Act.put, List.setIfInBounds_toArray, List.set_cons_zero, List.set_cons_succ]
      refine AnyH.take (i := 10) (d := some 127) (v := ?_) (by kernel_rfl) rfl rfl HF (fun _ _ _ h => h) (.inl ⟨by rfl, ?_⟩) (by first | assumption | rfl) ?_
      rotate_left
      · intro w hS; try subst hS
        go_simp; try with_reducible rfl
      try simp only [Act.put, List.setIfInBounds_toArray, List.set_cons_zero, List.set_cons_succ]
      refine AnyH.one (i := 11) (by kernel_rfl) (by kernel_rfl) rfl HF (by rfl) (fun K hK => ?_)
      go_simp
      first | ((with_reducible refine And.intro ?hdep ?_); (case hdep => first | rfl | (intro h; cases h))) | skip
      first | refine callsIn_wide.2 ((HCB.out _).mono ?_) | refine ⟨(fun h => by cases h), callsIn_wide.2 ((HCB.out _).mono ?_)⟩ | refine ⟨trivial, (fun h => by cases h), callsIn_wide.2 ((HCB.out _).mono ?_)⟩
      rintro e w ⟨rfl, h⟩
      rw [h]
      clear h w
      refine hK _ _ B0 ?_
      clear hK K
      try simp only [Act.put, List.setIfInBounds_toArray, List.set_cons_zero, List.set_cons_succ]
      refine AnyH.take (i := 12) (d := some 129) (v := ?_) (by kernel_rfl) rfl rfl HF (fun _ _ _ h => h) (.inl ⟨by rfl, ?_⟩) (by first | assumption | rfl) ?_
      rotate_left
      · intro w hS; try subst hS
        go_simp; try with_reducible rfl
      try simp only [Act.put, List.setIfInBounds_toArray, List.set_cons_zero, List.set_cons_succ]
      refine AnyH.take (i := 13) (d := some 130) (v := ?_) (by kernel_rfl) rfl rfl HF (fun _ _ _ h => h) (.inl ⟨by rfl, ?_⟩) (by first | assumption | rfl) ?_
      rotate_left
      · intro w hS; try subst hS
        go_simp; try with_reducible rfl
      try simp only [Act.put, List.setIfInBounds_toArray, List.set_cons_zero, List.set_cons_succ]
      refine AnyH.tailL 14 (by kernel_rfl) ?_
      simp only [List.drop_succ_cons, List.drop_zero]
      have k6 := (HCL.out Zd (HJZ.out.1.below B0)).2.2.2.2.1
      have c6 : Zd.cell? ⟨g6, 0, none⟩ = some (.bool false) := by simp [World.cell?, k6]
      have f6 : Zd.frozen? ⟨g6, 0, none⟩ = false := by simp [World.frozen?, k6]
      obtain ⟨Ze, hZe⟩ : ∃ y, Zd.setCell ⟨g6, 0, none⟩ (.bool true) = y := ⟨_, rfl⟩
      have HC6 : Hid (Ze.heap[g6]? = some (.cells #[.bool true] 4 (0, 0))) := Lib.hid (by rw [← hZe]; exact heap_set0 _ k6)
      have HBF : Hid (Below W.heap.size W Ze) := Lib.hid (by rw [← hZe]; exact (HJZ.out.below B0).2.2.1.setCell (p := ⟨g6, 0, none⟩) HG6.out _)
      have HMF2 := Lib.hid ((HMF.out.below B0).keep (by rw [← hZe]; exact KeepsOthers.setCell Zd ⟨g6, 0, none⟩ (.bool true) : KeepsOthers Zd Ze))
      have HZS : Hid (w9.heap.size ≤ Ze.heap.size) := Lib.hid (by rw [← hZe]; have h1 := B0.size; have h2 := (Array.getElem?_eq_some_iff.1 (HJZ.out.2.2.2 D (by simp)).2).1; have h3 := HMD.out.1; simp; omega)
      have HG67 : Hid (g6 < w9.heap.size) := Lib.hid HG69.out
      clear k6 c14 c15 c4 c13 B0
      gi_wp2_with fail
      refine NP.normal ?_
      gi_wp2_with fail
      refine HMF2.out.leaves HZS.out fun w' hb' => ?_
      have hc7 := (hb'.block g6 HG67.out).trans HC6.out
      have hc8 : w'.cell? ⟨g6, 0, none⟩ = some (.bool true) := by simp [World.cell?, hc7]
      refine ⟨.bool true, ?_, rfl, HBF.out.trans (hb'.mono HWZ2.out)⟩
      simp [results, Try.f9, go_sem, hc8]
    · rintro D2 c pre Z hD hpre ⟨rfl, hj, h15, h14, hml⟩ hDc
      have HBH : Hid (m = min fr m) := Lib.hid (by
        have h := hpre.length_le
        rw [List.length_reverse, lzs_length, List.length_take, HTL.out] at h; have := HFR.out; omega)
      obtain ⟨bh, hbh⟩ : ∃ y, m = y := ⟨_, rfl⟩
      have h15 : Z.heap[g15]? = some (.cells #[.int .i64 bh] 3 (0, 0)) := by rw [← hbh]; exact h15
      have HBH : Hid (bh = min fr m) := Lib.hid (by rw [← hbh]; exact HBH.out)
      clear hml hbh hpre
      have HMF : Hid (Marks w9.heap.size Z [{ target := .collected D2, args := #[] }, { target := .collected D, args := #[] }]) := Lib.hid (by
        have hdd : D < D2 := Nat.lt_of_lt_of_le HDB.out hD
        refine ⟨[D2, D], rfl, List.pairwise_cons.2 ⟨fun x hx => ?_, List.pairwise_singleton _ _⟩, fun x hx => ?_⟩
        · rw [List.mem_singleton.1 hx]; exact hdd
        · rcases List.mem_cons.1 hx with rfl | hx
          · exact ⟨Nat.le_trans HMD.out.1 (Nat.le_of_lt hdd), hDc⟩
          · rw [List.mem_singleton.1 hx]; exact ⟨HMD.out.1, (hj.2.2.2 D (by simp)).2⟩)
      have HJZ := Lib.hid hj
      have HZ14 := Lib.hid h14; have HZ15 := Lib.hid h15
      have HC1 : Hid (∀ w, Below Z.heap.size Z w → w.cell? ⟨g14, 0, none⟩ = some (.int .i64 ah) ∧ w.cell? ⟨g15, 0, none⟩ = some (.int .i64 bh) ∧ w.cell? ⟨W.heap.size, 0, none⟩ = some (.int .i64 fr) ∧ w.cell? ⟨g13, 0, none⟩ = some (.int .i64 m)) := Lib.hid (fun w hw => by
        have k1 := below_block hw HZ14.out; have k2 := below_block hw HZ15.out
        obtain ⟨-, -, e4, e13, -, -⟩ := HCL.out w (HJZ.out.1.below hw)
        exact ⟨by simp [World.cell?, k1], by simp [World.cell?, k2], e4, e13⟩)
      have c14 : ∀ w, Below Z.heap.size Z w → w.cell? ⟨g14, 0, none⟩ = some (.int .i64 ah) := fun w hw => (HC1.out w hw).1
      have c15 : ∀ w, Below Z.heap.size Z w → w.cell? ⟨g15, 0, none⟩ = some (.int .i64 bh) := fun w hw => (HC1.out w hw).2.1
      have c4 : ∀ w, Below Z.heap.size Z w → w.cell? ⟨W.heap.size, 0, none⟩ = some (.int .i64 fr) := fun w hw => (HC1.out w hw).2.2.1
      have c13 : ∀ w, Below Z.heap.size Z w → w.cell? ⟨g13, 0, none⟩ = some (.int .i64 m) := fun w hw => (HC1.out w hw).2.2.2
      have hs1 : IntKind.i64.wrap ((tl : Int) - (fr : Int)) = ((tl - fr : Nat) : Int) := by rw [IntKind.wrap_i64]; have h1 := HLB.out; have h2 := HFR.out; omega
      obtain ⟨df, hdf⟩ : ∃ y, tl - fr = y := ⟨_, rfl⟩
      have HAH2 : Hid (ah = min df m) := Lib.hid (by rw [← hdf]; exact HAH.out)
      rw [hdf] at hs1
      have hq1 : (if ((df : Nat) : Int) < 0 then (0 : Int) else if ((df : Nat) : Int) > (m : Int) then (m : Int) else ((df : Nat) : Int)) = (ah : Int) := by have := HAH2.out; split <;> (try split) <;> omega
      have hq2 : (if ((fr : Nat) : Int) < 0 then (0 : Int) else if ((fr : Nat) : Int) > (m : Int) then (m : Int) else ((fr : Nat) : Int)) = (bh : Int) := by have := HBH.out; split <;> (try split) <;> omega
      have HCA : Hid (∀ w, Calls Try.prog 32 #[.int .i64 ((df : Nat) : Int), .int .i64 0, .int .i64 m] w fun e w' => e = .returned (.int .i64 ah) ∧ w' = w) := Lib.hid (fun w => by have h := clipR_any w df 0 m; rwa [hq1] at h)
      have HCB : Hid (∀ w, Calls Try.prog 32 #[.int .i64 ((fr : Nat) : Int), .int .i64 0, .int .i64 m] w fun e w' => e = .returned (.int .i64 bh) ∧ w' = w) := Lib.hid (fun w => by have h := clipR_any w fr 0 m; rwa [hq2] at h)
      have HWZ2 := HWZ9
      clear hj h14 h15 hDc hD HEN HST HJ H14 H15 hq1 hq2 hdf HWZ
      gi_wp2_with fail
      refine wpIn_region_anyNP (Below Z.heap.size Z) (by kernel_rfl) ?_
      obtain ⟨Zd, hZd⟩ : ∃ y, Z.drew = y := ⟨_, rfl⟩
      have B0 : Below Z.heap.size Z Zd := by rw [← hZd]; exact (Below.refl _ _).drew
      rw [hZd]
      clear hZd
      refine AnyH.take (i := 0) (d := some 117) (v := ?_) (by kernel_rfl) rfl rfl HF (fun _ _ _ h => h) (.inl ⟨by rfl, ?_⟩) (by first | assumption | rfl) ?_
      rotate_left
      · intro w hS; try subst hS
        go_simp; try with_reducible rfl
      try simp only [Act.put, List.setIfInBounds_toArray, List.set_cons_zero, List.set_cons_succ]
      refine AnyH.take (i := 1) (d := some 118) (v := ?_) (by kernel_rfl) rfl rfl HF (fun _ _ _ h => h) (.inl ⟨by rfl, ?_⟩) (by first | assumption | rfl) ?_
      rotate_left
      · intro w hS; try subst hS
        go_simp; try with_reducible rfl
      try simp only [Act.put, List.setIfInBounds_toArray, List.set_cons_zero, List.set_cons_succ]
      refine AnyH.take (i := 2) (d := some 119) (v := ?_) (by kernel_rfl) rfl rfl HF (fun _ _ _ h => h) (.inl ⟨by rfl, ?_⟩) (by first | assumption | rfl) ?_
      rotate_left
      · intro w hS; try subst hS
        go_simp; try with_reducible rfl
      try simp only [Act.put, List.setIfInBounds_toArray, List.set_cons_zero, List.set_cons_succ]
      refine AnyH.take (i := 3) (d := some 120) (v := ?_) (by kernel_rfl) rfl rfl HF (fun _ _ _ h => h) (.inl ⟨by rfl, ?_⟩) (by first | assumption | rfl) ?_
      rotate_left
      · intro w hS; try subst hS
        go_simp; try with_reducible rfl
      try simp only [Act.put, List.setIfInBounds_toArray, List.set_cons_zero, List.set_cons_succ]
      refine AnyH.take (i := 4) (d := some 121) (v := ?_) (by kernel_rfl) rfl rfl HF (fun _ _ _ h => h) (.inl ⟨by rfl, ?_⟩) (by first | assumption | rfl) ?_
      rotate_left
      · intro w hS; try subst hS
        go_simp; try with_reducible rfl
      try simp only [Act.put, List.setIfInBounds_toArray, List.set_cons_zero, List.set_cons_succ]
      refine AnyH.one (i := 5) (by kernel_rfl) (by kernel_rfl) rfl HF (by rfl) (fun K hK => ?_)
      go_simp
      first | ((with_reducible refine And.intro ?hdep ?_); (case hdep => first | rfl | (intro h; cases h))) | skip
      first | refine callsIn_wide.2 ((HCA.out _).mono ?_) | refine ⟨(fun h => by cases h), callsIn_wide.2 ((HCA.out _).mono ?_)⟩ | refine ⟨trivial, (fun h => by cases h), callsIn_wide.2 ((HCA.out _).mono ?_)⟩
      rintro e w ⟨rfl, h⟩
      rw [h]
      clear h w
      refine hK _ _ B0 ?_
      clear hK K
      try simp only [Act.put, List.setIfInBounds_toArray, List.set_cons_zero, List.set_cons_succ]
      refine AnyH.take (i := 6) (d := some 123) (v := ?_) (by kernel_rfl) rfl rfl HF (fun _ _ _ h => h) (.inl ⟨by rfl, ?_⟩) (by first | assumption | rfl) ?_
      rotate_left
      · intro w hS; try subst hS
        go_simp; try with_reducible rfl
      try simp only [Act.put, List.setIfInBounds_toArray, List.set_cons_zero, List.set_cons_succ]
      refine AnyH.take (i := 7) (d := some 124) (v := ?_) (by kernel_rfl) rfl rfl HF (fun _ _ _ h => h) (.inl ⟨by rfl, ?_⟩) (by first | assumption | rfl) ?_
      rotate_left
      · intro w hS; try subst hS
        go_simp; try with_reducible rfl
      try simp only [Act.put, List.setIfInBounds_toArray, List.set_cons_zero, List.set_cons_succ]
      refine AnyH.take (i := 8) (d := some 125) (v := ?_) (by kernel_rfl) rfl rfl HF (fun _ _ _ h => h) (.inl ⟨by rfl, ?_⟩) (by first | assumption | rfl) ?_
      rotate_left
      · intro w hS; try subst hS
        go_simp; try with_reducible rfl
      try simp only [Act.put, List.setIfInBounds_toArray, List.set_cons_zero, List.set_cons_succ]
      refine AnyH.take (i := 9) (d := some 126) (v := ?_) (by kernel_rfl) rfl rfl HF (fun _ _ _ h => h) (.inl ⟨by rfl, ?_⟩) (by first | assumption | rfl) ?_
      rotate_left
      · intro w hS; try subst hS
        go_simp; try with_reducible rfl
      try simp only [Act.put, List.setIfInBounds_toArray, List.set_cons_zero, List.set_cons_succ]
      refine AnyH.take (i := 10) (d := some 127) (v := ?_) (by kernel_rfl) rfl rfl HF (fun _ _ _ h => h) (.inl ⟨by rfl, ?_⟩) (by first | assumption | rfl) ?_
      rotate_left
      · intro w hS; try subst hS
        go_simp; try with_reducible rfl
      try simp only [Act.put, List.setIfInBounds_toArray, List.set_cons_zero, List.set_cons_succ]
      refine AnyH.one (i := 11) (by kernel_rfl) (by kernel_rfl) rfl HF (by rfl) (fun K hK => ?_)
      go_simp
      first | ((with_reducible refine And.intro ?hdep ?_); (case hdep => first | rfl | (intro h; cases h))) | skip
      first | refine callsIn_wide.2 ((HCB.out _).mono ?_) | refine ⟨(fun h => by cases h), callsIn_wide.2 ((HCB.out _).mono ?_)⟩ | refine ⟨trivial, (fun h => by cases h), callsIn_wide.2 ((HCB.out _).mono ?_)⟩
      rintro e w ⟨rfl, h⟩
      rw [h]
      clear h w
      refine hK _ _ B0 ?_
      clear hK K
      try simp only [Act.put, List.setIfInBounds_toArray, List.set_cons_zero, List.set_cons_succ]
      refine AnyH.take (i := 12) (d := some 129) (v := ?_) (by kernel_rfl) rfl rfl HF (fun _ _ _ h => h) (.inl ⟨by rfl, ?_⟩) (by first | assumption | rfl) ?_
      rotate_left
      · intro w hS; try subst hS
        go_simp; try with_reducible rfl
      try simp only [Act.put, List.setIfInBounds_toArray, List.set_cons_zero, List.set_cons_succ]
      refine AnyH.take (i := 13) (d := some 130) (v := ?_) (by kernel_rfl) rfl rfl HF (fun _ _ _ h => h) (.inl ⟨by rfl, ?_⟩) (by first | assumption | rfl) ?_
      rotate_left
      · intro w hS; try subst hS
        go_simp; try with_reducible rfl
      try simp only [Act.put, List.setIfInBounds_toArray, List.set_cons_zero, List.set_cons_succ]
      refine AnyH.tailL 14 (by kernel_rfl) ?_
      simp only [List.drop_succ_cons, List.drop_zero]
      have k6 := (HCL.out Zd (HJZ.out.1.below B0)).2.2.2.2.1
      have c6 : Zd.cell? ⟨g6, 0, none⟩ = some (.bool false) := by simp [World.cell?, k6]
      have f6 : Zd.frozen? ⟨g6, 0, none⟩ = false := by simp [World.frozen?, k6]
      obtain ⟨Ze, hZe⟩ : ∃ y, Zd.setCell ⟨g6, 0, none⟩ (.bool true) = y := ⟨_, rfl⟩
      have HC6 : Hid (Ze.heap[g6]? = some (.cells #[.bool true] 4 (0, 0))) := Lib.hid (by rw [← hZe]; exact heap_set0 _ k6)
      have HBF : Hid (Below W.heap.size W Ze) := Lib.hid (by rw [← hZe]; exact (HJZ.out.below B0).2.2.1.setCell (p := ⟨g6, 0, none⟩) HG6.out _)
      have HMF2 := Lib.hid ((HMF.out.below B0).keep (by rw [← hZe]; exact KeepsOthers.setCell Zd ⟨g6, 0, none⟩ (.bool true) : KeepsOthers Zd Ze))
      have HZS : Hid (w9.heap.size ≤ Ze.heap.size) := Lib.hid (by rw [← hZe]; have h1 := B0.size; have h2 := (Array.getElem?_eq_some_iff.1 (HJZ.out.2.2.2 D (by simp)).2).1; have h3 := HMD.out.1; simp; omega)
      have HG67 : Hid (g6 < w9.heap.size) := Lib.hid HG69.out
      clear k6 c14 c15 c4 c13 B0
      gi_wp2_with fail
      refine NP.normal ?_
      gi_wp2_with fail
      refine HMF2.out.leaves HZS.out fun w' hb' => ?_
      have hc7 := (hb'.block g6 HG67.out).trans HC6.out
      have hc8 : w'.cell? ⟨g6, 0, none⟩ = some (.bool true) := by simp [World.cell?, hc7]
      refine ⟨.bool true, ?_, rfl, HBF.out.trans (hb'.mono HWZ2.out)⟩
      simp [results, Try.f9, go_sem, hc8]
end M
end Go.Proofs.Ytpjcfepngjpfbaa
