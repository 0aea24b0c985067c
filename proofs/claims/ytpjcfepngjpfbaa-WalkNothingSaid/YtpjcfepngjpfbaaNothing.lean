/- WalkNothing: the walk (printed by walk/mknoth.py). -/
import Derived.Test.YtpjcfepngjpfbaaAws
import Derived.Test.YtpjcfepngjpfbaaMds
import Derived.Test.YtpjcfepngjpfbaaBld14
import Derived.Test.YtpjcfepngjpfbaaSome
import Derived.Test.YtpjcfepngjpfbaaSop
set_option linter.unusedVariables false
set_option linter.unusedSimpArgs false
namespace Go.Proofs.Ytpjcfepngjpfbaa
open Go.RowKit Go.Lib
namespace M
attribute [local go_sem] Oper.semAt_some
/-- A power: not balanced. -/
theorem pow_odd {E : List En} (h : WfD E) {l k : Nat} {t : List Nat} (hl0 : 0 < l) (hl : l ≤ E.length) (ht : txt E l = t) (hk : 2 ≤ k) (hs : t.length * k ≤ 1152921504606846976) :
    ∃ E2 i, powF E l k = (E2, i, 0) ∧ WfD E2 ∧ Ext E E2 ∧ E2.length ≤ E.length + 1 ∧ 0 < i ∧ i ≤ E2.length ∧ (entAt E2 i).even = false ∧ txt E2 i = rep k t := by
  have e1 : (entAt E l).w.len = t.length := by rw [(h.wf.get l hl0 hl).1, ht]; rfl
  have hde : DeOk E (powE E l k) := by
    refine ⟨fun h => ?_, fun h => ?_, fun _ => rfl⟩
    · have h' : (3 : Nat) = 1 := h
      omega
    · have h' : (3 : Nat) = 2 := h
      omega
  obtain ⟨a1, a2, a3, a4, a5, a6⟩ := addF_at h (powE_ok h.wf hl0 hl hk (by rw [e1]; exact hs)) hde
  have hk3 : (entAt (addF E (powE E l k)).1 (addF E (powE E l k)).2).ru = ⟨3, 0, l, 0, k⟩ := a6
  refine ⟨_, _, ?_, a1, a2, a3, a4, a5, (a1.at _ a4 a5).2.2 (by rw [hk3]), ?_⟩
  · unfold powF
    rw [if_neg (by omega), if_neg (by omega), if_pos (by rw [e1]; exact hs)]
  · rcases (a1.wf.rule _ a4 a5).cases with ⟨g, -⟩ | ⟨g, -⟩ | ⟨-, -, -, -, -, -, -, g⟩
    · rw [hk3] at g; cases g
    · rw [hk3] at g; cases g
    · rw [g, hk3, a2.txt hl, ht]
set_option maxRecDepth 100000 in
set_option maxHeartbeats 8000000 in
theorem nothing_any {W : World} {v : Value} {L : List Stp} (hL : RowStp W v L) (raw at_ : Int) :
    Calls Try.prog 10 #[v, .int .i64 raw, .int .i64 at_] W fun e w' => e = .returned (.bool true) ∧ Below W.heap.size W w' := by
  have HF : ∀ f, Fence.wide.fn f := fun _ => trivial
  obtain ⟨W0, hW0⟩ : ∃ w, W.alloc (.cells #[.bool false] 4) = w := ⟨_, rfl⟩
  have n6 : W0.heap[W.heap.size]? = some (.cells #[.bool false] 4 (0, 0)) := by rw [← hW0]; exact heap_new' _ _
  have hb0 : Below W.heap.size W W0 := by rw [← hW0]; exact (Below.refl _ W).alloc (Nat.le_refl _) _
  have HBD := Lib.hid (build14_any (hL.under hb0 (Nat.le_refl _)))
  have HN6 := Lib.hid n6; have HB0 := Lib.hid hb0
  clear n6 hb0 hL
  refine (callsIn_wide (n := 9)).1 ?_
  refine callsIn_of_wp_marks Try.func10 rfl trivial ?_ rfl
  simp only [Try.ntmps10, List.size_toArray, List.length_cons, List.length_nil, Nat.reduceAdd, Nat.reduceSub, Array.replicate_succ, Array.replicate_zero, List.push_toArray, List.append_toArray, List.nil_append, List.cons_append]
  gi_wp2_with fail
  first | refine callsIn_wide.2 (HBD.out.mono ?_) | refine ⟨(fun h => by cases h), callsIn_wide.2 (HBD.out.mono ?_)⟩ | refine ⟨trivial, (fun h => by cases h), callsIn_wide.2 (HBD.out.mono ?_)⟩
  rintro e w1 ⟨B, E, ids, T, iv, lv, tv, rfl, s1, hwd, hEl, hil, hI, hT, hS, hO, b1⟩
  obtain ⟨ia, il, ic, rfl⟩ : ∃ a l c, iv = .slice a l c := by obtain ⟨a, c, h⟩ := hI.len; exact ⟨a, _, c, h⟩
  obtain ⟨la, ll, lc, rfl⟩ : ∃ a l c, lv = .slice a l c := by obtain ⟨a, c, h⟩ := hT.len; exact ⟨a, _, c, h⟩
  obtain ⟨ta, tl', tc, rfl⟩ : ∃ a l c, tv = .slice a l c := by obtain ⟨a, c, h⟩ := hS.len; exact ⟨a, _, c, h⟩
  obtain ⟨wz2, w2, hz2, hs2, k7, b2, z7⟩ := newMd w1 B (.slice ia il ic) (.slice la ll lc) (.slice ta tl' tc)
  obtain ⟨g7, hg7⟩ : ∃ y, w1.heap.size = y := ⟨_, rfl⟩
  rw [hg7] at hs2 k7 z7
  obtain ⟨⟨p0, p1, p2, p3⟩, q0, q1, q2, q3⟩ := z7.cells
  have HLA := Lib.hid (last_any (B := B) (SlA.below hI b2) (SlA.below hT b2) (SlA.below hS b2) (hO.keep (KeepT.below b2)) hil)
  obtain ⟨c0, c1, c2, c3⟩ := k7.cells
  have HB2 := Lib.hid (Below.after b1 b2)
  have HN6b := Lib.hid (below_block HB2.out HN6.out)
  have HM2 := Lib.hid k7; have HS2 := Lib.hid (s1.below b2); have HWD := Lib.hid hwd
  have HEL := Lib.hid hEl
  clear b1 b2 s1 hwd hEl hil hI hT hS hO k7 z7 HBD HN6
  gi_wp2_with fail
  first | refine callsIn_wide.2 (HLA.out.mono ?_) | refine ⟨(fun h => by cases h), callsIn_wide.2 (HLA.out.mono ?_)⟩ | refine ⟨trivial, (fun h => by cases h), callsIn_wide.2 (HLA.out.mono ?_)⟩
  rintro e w3 ⟨id, ⟨ua, ul, uc⟩, rfl, hid, hbal, hul, hby, b3⟩
  obtain ⟨kn, hkn⟩ : ∃ y, decide ((txt E id).length ≤ 4096) = y := ⟨_, rfl⟩
  rw [hkn]
  obtain ⟨tl, htl⟩ : ∃ y, (txt E id).length = y := ⟨_, rfl⟩
  rw [htl] at hkn ⊢
  have HAW := Lib.hid (awake17_any w3)
  have HN6c := Lib.hid (below_block b3 HN6b.out)
  have HM4 := Lib.hid (show McC w3 g7 B (.slice ia il ic) (.slice la ll lc) (.slice ta tl' tc) from below_block b3 HM2.out)
  have HS4 := Lib.hid (HS2.out.below b3)
  have HB3 := Lib.hid (Below.after HB2.out b3)
  have HTL := Lib.hid htl; have HID := Lib.hid hid
  clear b3 hul hby hkn htl hid hbal HLA HN6b HM2 HS2 HB2
  gi_wp2_with fail
  first | refine callsIn_wide.2 (HAW.out.mono ?_) | refine ⟨(fun h => by cases h), callsIn_wide.2 (HAW.out.mono ?_)⟩ | refine ⟨trivial, (fun h => by cases h), callsIn_wide.2 (HAW.out.mono ?_)⟩
  rintro e w5 ⟨rfl, b5⟩
  have HN6d := Lib.hid (below_block b5 HN6c.out)
  have HM5 := Lib.hid (show McC w5 g7 B (.slice ia il ic) (.slice la ll lc) (.slice ta tl' tc) from below_block b5 HM4.out)
  have HS5 := Lib.hid (HS4.out.below b5)
  have HBW : Hid (Below W.heap.size W w5) := Lib.hid (Below.after HB0.out (Below.after HB3.out b5))
  obtain ⟨x1, x2, x3, x4⟩ := let_bal HWD.out (b := 113) (by omega)
  obtain ⟨E1, hE1⟩ : ∃ y, (addF E (letE 113)).1 = y := ⟨_, rfl⟩
  obtain ⟨one, hone⟩ : ∃ y, (addF E (letE 113)).2 = y := ⟨_, rfl⟩
  have HLE := Lib.hid (letter_any HS5.out 113 (by omega) (by have := HEL.out; omega) (by have := HEL.out; omega))
  rw [hE1] at x1 x2 x3
  rw [hE1, hone] at HLE x4
  obtain ⟨E2, bad, hpw, y1, y2, y3, y4, y5, y6, y7⟩ := pow_odd x1 x4.pos x4.le x4.txt (k := 3) (by omega) (by simp)
  have HX := Lib.hid (And.intro x1.wf (And.intro x2 (And.intro x3 x4))); have HPW := Lib.hid hpw
  have HY := Lib.hid (And.intro y1.wf (And.intro (x2.trans y2) (And.intro (show E2.length ≤ 23402 by have := HEL.out; omega) (And.intro y5 (And.intro y6 y7)))))
  obtain ⟨c0, -, -, -⟩ := HM5.out.cells
  clear b5 HAW HN6c HM4 HS4 HB3 hz2 hs2 p0 p1 p2 p3 q0 q1 q2 q3 c1 c2 c3 hW0 x1 x2 x3 x4 hE1 hone hpw y1 y2 y3 y4 y5 y6 y7
  gi_wp2_with fail
  first | refine callsIn_wide.2 (HLE.out.mono ?_) | refine ⟨(fun h => by cases h), callsIn_wide.2 (HLE.out.mono ?_)⟩ | refine ⟨trivial, (fun h => by cases h), callsIn_wide.2 (HLE.out.mono ?_)⟩
  rintro e w6 ⟨rfl, s6, b6, k6⟩
  have HN6e : Hid (w6.heap[W.heap.size]? = some (.cells #[.bool false] 4 (0, 0))) := Lib.hid (k6 _ (by decide) (by decide) _ _ _ HN6d.out)
  have HM6 := Lib.hid (HM5.out.keep (fun b cs fz h => k6 _ (by decide) (by decide) b cs fz h))
  have HBX : Hid (Below W.heap.size W w6) := Lib.hid (HBW.out.trans (b6.mono HB0.out.size))
  have HPO := Lib.hid (power_any s6 HX.out.1 (l := one) (k := 3) HX.out.2.2.2.le (by omega) (by have := HX.out.2.2.1; have := HEL.out; omega) (by have := HX.out.2.2.1; have := HEL.out; omega))
  rw [HPW.out] at HPO
  have HPO2 : Hid (Calls Try.prog 34 #[.pointer (some ⟨B, 0, none⟩), .int .i64 one, .int .i64 3] w6 fun x w' => x = .returned (.tuple #[.int .i64 bad, .nilIface]) ∧ StAt W0.heap.size w' B 1048576 E2 ∧ Below W0.heap.size w6 w' ∧ Kt w6 w') := Lib.hid HPO.out
  obtain ⟨c0, -, -, -⟩ := HM6.out.cells
  clear s6 b6 k6 HLE HN6d HM5 HS5 HBW HPO HPW
  gi_wp2_with fail
  first | refine callsIn_wide.2 (HPO2.out.mono ?_) | refine ⟨(fun h => by cases h), callsIn_wide.2 (HPO2.out.mono ?_)⟩ | refine ⟨trivial, (fun h => by cases h), callsIn_wide.2 (HPO2.out.mono ?_)⟩
  rintro e w7 ⟨rfl, s7, b7, k7⟩
  have HNa : Hid (w7.heap[W.heap.size]? = some (.cells #[.bool false] 4 (0, 0))) := Lib.hid (k7 _ (by decide) (by decide) _ _ _ HN6e.out)
  have HM7 := Lib.hid (HM6.out.keep (fun b cs fz h => k7 _ (by decide) (by decide) b cs fz h))
  have HCa7 := Lib.hid HM7.out.cells.1
  have HBa : Hid (Below W.heap.size W w7) := Lib.hid (HBX.out.trans (b7.mono HB0.out.size))
  have HSa := Lib.hid s7
  have HNI := Lib.hid (some_nil w7 id 0 0)
  clear s7 b7 k7 HPO2 HN6e HM6 HBX HM7
  gi_wp2_with fail
  first | refine callsIn_wide.2 (HNI.out.mono ?_) | refine ⟨(fun h => by cases h), callsIn_wide.2 (HNI.out.mono ?_)⟩ | refine ⟨trivial, (fun h => by cases h), callsIn_wide.2 (HNI.out.mono ?_)⟩
  rintro e w7b ⟨rfl, bb⟩
  have HNJ := Lib.hid (some_nil w7b one 0 1)
  have HBb := Lib.hid (Below.after HBa.out bb)
  have HNb := Lib.hid (below_block bb HNa.out)
  have HCb7 := Lib.hid (cell_on3 HCa7.out bb)
  have HSb := Lib.hid (HSa.out.below bb)
  clear bb HNI HBa HNa HCa7 HSa
  gi_wp2_with fail
  first | refine callsIn_wide.2 (HNJ.out.mono ?_) | refine ⟨(fun h => by cases h), callsIn_wide.2 (HNJ.out.mono ?_)⟩ | refine ⟨trivial, (fun h => by cases h), callsIn_wide.2 (HNJ.out.mono ?_)⟩
  rintro e w7c ⟨rfl, bb⟩
  have HBc := Lib.hid (Below.after HBb.out bb)
  have HNc := Lib.hid (below_block bb HNb.out)
  have HCc7 := Lib.hid (cell_on3 HCb7.out bb)
  have HSc := Lib.hid (HSb.out.below bb)
  have c7 := HCc7.out
  have HPC := Lib.hid (pieces_odd HSc.out HY.out.1 (by have := HY.out.2.2.1; omega) (id := bad) (frm := 0) (n := 3) HY.out.2.2.2.1 HY.out.2.2.2.2.1 (by rw [HY.out.2.2.2.2.2]; simp [rep]))
  clear bb HNJ HBb HNb HCb7 HSb
  gi_wp2_with fail
  first | refine callsIn_wide.2 (HPC.out.mono ?_) | refine ⟨(fun h => by cases h), callsIn_wide.2 (HPC.out.mono ?_)⟩ | refine ⟨trivial, (fun h => by cases h), callsIn_wide.2 (HPC.out.mono ?_)⟩
  rintro e w8 ⟨vq, rfl, ⟨gf, rfl, hen, hst⟩, b8⟩
  have HEN := Lib.hid hen; have HST := Lib.hid hst
  have HBd := Lib.hid (Below.after HBc.out b8)
  have HNd := Lib.hid (below_block b8 HNc.out)
  have HCd7 := Lib.hid (cell_on3 HCc7.out b8)
  have HSd := Lib.hid (HSc.out.below b8)
  have HG8 : Hid (W.heap.size < w8.heap.size) := Lib.hid (Array.getElem?_eq_some_iff.1 HNd.out).1
  clear hen hst b8 HPC HBc HNc HCc7 HSc c7
  gi_wp2_with fail
  refine wpIn_rangeFunc_T (α := Unit) rfl (by omega) (gf := gf) (lb := #[]) rfl trivial HEN.out (stops_nil (encs := fun _ : Unit => #[.int .i64 0, .int .i64 0]) (Kp := fun _ _ => True) (ts := []) (Nx := fun _ _ => False) (w := w8) 8 (HST.out 8)) (fun _ _ => trivial) (fun _ _ _ _ _ _ _ _ => trivial) (Below.refl _ _) (fun _ => rfl)
    (fun _ Y => Below w8.heap.size w8 Y) (fun _ _ _ => False)
    (fun s A C row hs hg hr => own_below hg hr (Nat.le_refl _) (Nat.le_refl _) hs) (fun c s A C row hs => hs.elim)
    (fun s A C hs h => hs.trans h.below) (fun c s A C hs => hs.elim)
    (Below.refl _ _) (fun l pre x Y Yb K hI hn => hn.elim) ?_ (fun D c pre Y hD hp hx => hx.elim)
  rintro D1 xs Y1 hD1 - h1 hDc
  have HMe : Hid (Marks w8.heap.size Y1 [{ target := .collected D1, args := #[] }]) := Lib.hid ((Marks.nil _ Y1).cons (fun D' h => by cases h) hD1 hDc)
  have HZe : Hid (w8.heap.size ≤ Y1.heap.size) := Lib.hid h1.size
  have HBe := Lib.hid (Below.after HBd.out h1)
  have HNe := Lib.hid (below_block h1 HNd.out)
  have HCe7 := Lib.hid (cell_on3 HCd7.out h1)
  have HSe := Lib.hid (HSd.out.below h1)
  have c7 := HCe7.out
  have HIDX : Hid (id ≤ E2.length) := Lib.hid (Nat.le_trans HID.out HY.out.2.1.le)
  have HTX : Hid ((txt E2 id).length = tl) := Lib.hid (by rw [HY.out.2.1.txt HID.out]; exact HTL.out)
  have HE2 : Hid (E2.length ≤ 1048576) := Lib.hid (by have := HY.out.2.2.1; omega)
  clear h1 hDc hD1 HEN HST HBd HNd HCd7 HSd c0
  by_cases r1 : raw < 0
  · have HSM := Lib.hid (some_miss HSe.out (id := raw) (by omega) 0 1)
    gi_wp2_with fail
    first | refine callsIn_wide.2 (HSM.out.mono ?_) | refine ⟨(fun h => by cases h), callsIn_wide.2 (HSM.out.mono ?_)⟩ | refine ⟨trivial, (fun h => by cases h), callsIn_wide.2 (HSM.out.mono ?_)⟩
    rintro e wr ⟨rfl, br⟩
    have HBf := Lib.hid (Below.after HBe.out br)
    have HNf := Lib.hid (below_block br HNe.out)
    have HCf7 := Lib.hid (cell_on3 HCe7.out br)
    have HSf := Lib.hid (HSe.out.below br)
    have HMf := Lib.hid (HMe.out.below br)
    have HZf : Hid (w8.heap.size ≤ wr.heap.size) := Lib.hid (Nat.le_trans HZe.out br.size)
    clear br HSM c7
    by_cases a1 : at_ < 0
    · have a2 : ¬ 0 ≤ at_ := by omega
      have a3 : ¬ at_ ≥ 0 := by omega
      have a4 : decide (0 ≤ at_) = false := decide_eq_false a2
      have HSO := Lib.hid (some_off HSf.out HY.out.1 HE2.out HIDX.out (at_ := at_) (.inl a1))
      have c7 := HCf7.out
      gi_wp2_with fail
      first | refine callsIn_wide.2 (HSO.out.mono ?_) | refine ⟨(fun h => by cases h), callsIn_wide.2 (HSO.out.mono ?_)⟩ | refine ⟨trivial, (fun h => by cases h), callsIn_wide.2 (HSO.out.mono ?_)⟩
      rintro e wz ⟨rfl, bz⟩
      have HBz := Lib.hid (Below.after HBf.out bz)
      have HNz := Lib.hid (below_block bz HNf.out)
      have HCz7 := Lib.hid (cell_on3 HCf7.out bz)
      have HSz := Lib.hid (HSf.out.below bz)
      have HMz := Lib.hid (HMf.out.below bz)
      have HZz : Hid (w8.heap.size ≤ wz.heap.size) := Lib.hid (Nat.le_trans HZf.out bz.size)
      clear bz HSO
      have k8 := HNz.out
      have c8 : wz.cell? ⟨W.heap.size, 0, none⟩ = some (.bool false) := by simp [World.cell?, k8]
      have f8 : wz.frozen? ⟨W.heap.size, 0, none⟩ = false := by simp [World.frozen?, k8]
      obtain ⟨Ye, hYe⟩ : ∃ y, wz.setCell ⟨W.heap.size, 0, none⟩ (.bool true) = y := ⟨_, rfl⟩
      have HC8 : Hid (Ye.heap[W.heap.size]? = some (.cells #[.bool true] 4 (0, 0))) := Lib.hid (by rw [← hYe]; exact heap_set0 _ k8)
      have HBF : Hid (Below W.heap.size W Ye) := Lib.hid (by rw [← hYe]; exact HBz.out.setCell (p := ⟨W.heap.size, 0, none⟩) (Nat.le_refl _) _)
      have HMF := Lib.hid (HMz.out.keep (by rw [← hYe]; exact KeepsOthers.setCell wz ⟨W.heap.size, 0, none⟩ (.bool true) : KeepsOthers wz Ye))
      have HZF : Hid (w8.heap.size ≤ Ye.heap.size) := Lib.hid (by rw [← hYe]; have := HZz.out; simpa using this)
      clear k8
      gi_wp2_with fail
      refine HMF.out.leaves HZF.out fun w' hb' => ?_
      have hc7 := (hb'.block W.heap.size HG8.out).trans HC8.out
      have hc8 : w'.cell? ⟨W.heap.size, 0, none⟩ = some (.bool true) := by simp [World.cell?, hc7]
      refine ⟨.bool true, ?_, rfl, HBF.out.trans (hb'.mono (Nat.le_of_lt HG8.out))⟩
      simp [results, Try.f10, go_sem, hc8]
    · have a2 : 0 ≤ at_ := by omega
      have a3 : at_ ≥ 0 := by omega
      by_cases a4 : at_ ≤ (tl : Int)
      · have k8 := HNf.out
        have c8 : wr.cell? ⟨W.heap.size, 0, none⟩ = some (.bool false) := by simp [World.cell?, k8]
        have f8 : wr.frozen? ⟨W.heap.size, 0, none⟩ = false := by simp [World.frozen?, k8]
        obtain ⟨Ye, hYe⟩ : ∃ y, wr.setCell ⟨W.heap.size, 0, none⟩ (.bool true) = y := ⟨_, rfl⟩
        have HC8 : Hid (Ye.heap[W.heap.size]? = some (.cells #[.bool true] 4 (0, 0))) := Lib.hid (by rw [← hYe]; exact heap_set0 _ k8)
        have HBF : Hid (Below W.heap.size W Ye) := Lib.hid (by rw [← hYe]; exact HBf.out.setCell (p := ⟨W.heap.size, 0, none⟩) (Nat.le_refl _) _)
        have HMF := Lib.hid (HMf.out.keep (by rw [← hYe]; exact KeepsOthers.setCell wr ⟨W.heap.size, 0, none⟩ (.bool true) : KeepsOthers wr Ye))
        have HZF : Hid (w8.heap.size ≤ Ye.heap.size) := Lib.hid (by rw [← hYe]; have := HZf.out; simpa using this)
        clear k8
        gi_wp2_with fail
        refine HMF.out.leaves HZF.out fun w' hb' => ?_
        have hc7 := (hb'.block W.heap.size HG8.out).trans HC8.out
        have hc8 : w'.cell? ⟨W.heap.size, 0, none⟩ = some (.bool true) := by simp [World.cell?, hc7]
        refine ⟨.bool true, ?_, rfl, HBF.out.trans (hb'.mono (Nat.le_of_lt HG8.out))⟩
        simp [results, Try.f10, go_sem, hc8]
      · have a5 : decide (at_ ≤ (tl : Int)) = false := decide_eq_false a4
        have HSO := Lib.hid (some_off HSf.out HY.out.1 HE2.out HIDX.out (at_ := at_) (.inr (by rw [HTX.out]; omega)))
        have c7 := HCf7.out
        gi_wp2_with fail
        first | refine callsIn_wide.2 (HSO.out.mono ?_) | refine ⟨(fun h => by cases h), callsIn_wide.2 (HSO.out.mono ?_)⟩ | refine ⟨trivial, (fun h => by cases h), callsIn_wide.2 (HSO.out.mono ?_)⟩
        rintro e wz ⟨rfl, bz⟩
        have HBz := Lib.hid (Below.after HBf.out bz)
        have HNz := Lib.hid (below_block bz HNf.out)
        have HCz7 := Lib.hid (cell_on3 HCf7.out bz)
        have HSz := Lib.hid (HSf.out.below bz)
        have HMz := Lib.hid (HMf.out.below bz)
        have HZz : Hid (w8.heap.size ≤ wz.heap.size) := Lib.hid (Nat.le_trans HZf.out bz.size)
        clear bz HSO
        have k8 := HNz.out
        have c8 : wz.cell? ⟨W.heap.size, 0, none⟩ = some (.bool false) := by simp [World.cell?, k8]
        have f8 : wz.frozen? ⟨W.heap.size, 0, none⟩ = false := by simp [World.frozen?, k8]
        obtain ⟨Ye, hYe⟩ : ∃ y, wz.setCell ⟨W.heap.size, 0, none⟩ (.bool true) = y := ⟨_, rfl⟩
        have HC8 : Hid (Ye.heap[W.heap.size]? = some (.cells #[.bool true] 4 (0, 0))) := Lib.hid (by rw [← hYe]; exact heap_set0 _ k8)
        have HBF : Hid (Below W.heap.size W Ye) := Lib.hid (by rw [← hYe]; exact HBz.out.setCell (p := ⟨W.heap.size, 0, none⟩) (Nat.le_refl _) _)
        have HMF := Lib.hid (HMz.out.keep (by rw [← hYe]; exact KeepsOthers.setCell wz ⟨W.heap.size, 0, none⟩ (.bool true) : KeepsOthers wz Ye))
        have HZF : Hid (w8.heap.size ≤ Ye.heap.size) := Lib.hid (by rw [← hYe]; have := HZz.out; simpa using this)
        clear k8
        gi_wp2_with fail
        refine HMF.out.leaves HZF.out fun w' hb' => ?_
        have hc7 := (hb'.block W.heap.size HG8.out).trans HC8.out
        have hc8 : w'.cell? ⟨W.heap.size, 0, none⟩ = some (.bool true) := by simp [World.cell?, hc7]
        refine ⟨.bool true, ?_, rfl, HBF.out.trans (hb'.mono (Nat.le_of_lt HG8.out))⟩
        simp [results, Try.f10, go_sem, hc8]
  · have HLN := Lib.hid (slen_any HSe.out)
    by_cases r2 : (E2.length : Int) < raw
    · have HSM := Lib.hid (some_miss HSe.out (id := raw) (by omega) 0 1)
      gi_wp2_with fail
      first | refine callsIn_wide.2 (HLN.out.mono ?_) | refine ⟨(fun h => by cases h), callsIn_wide.2 (HLN.out.mono ?_)⟩ | refine ⟨trivial, (fun h => by cases h), callsIn_wide.2 (HLN.out.mono ?_)⟩
      rintro e w ⟨rfl, h⟩
      rw [h]
      clear h w
      gi_wp2_with fail
      first | refine callsIn_wide.2 (HSM.out.mono ?_) | refine ⟨(fun h => by cases h), callsIn_wide.2 (HSM.out.mono ?_)⟩ | refine ⟨trivial, (fun h => by cases h), callsIn_wide.2 (HSM.out.mono ?_)⟩
      rintro e wr ⟨rfl, br⟩
      have HBf := Lib.hid (Below.after HBe.out br)
      have HNf := Lib.hid (below_block br HNe.out)
      have HCf7 := Lib.hid (cell_on3 HCe7.out br)
      have HSf := Lib.hid (HSe.out.below br)
      have HMf := Lib.hid (HMe.out.below br)
      have HZf : Hid (w8.heap.size ≤ wr.heap.size) := Lib.hid (Nat.le_trans HZe.out br.size)
      clear br HSM c7 HLN
      by_cases a1 : at_ < 0
      · have a2 : ¬ 0 ≤ at_ := by omega
        have a3 : ¬ at_ ≥ 0 := by omega
        have a4 : decide (0 ≤ at_) = false := decide_eq_false a2
        have HSO := Lib.hid (some_off HSf.out HY.out.1 HE2.out HIDX.out (at_ := at_) (.inl a1))
        have c7 := HCf7.out
        gi_wp2_with fail
        first | refine callsIn_wide.2 (HSO.out.mono ?_) | refine ⟨(fun h => by cases h), callsIn_wide.2 (HSO.out.mono ?_)⟩ | refine ⟨trivial, (fun h => by cases h), callsIn_wide.2 (HSO.out.mono ?_)⟩
        rintro e wz ⟨rfl, bz⟩
        have HBz := Lib.hid (Below.after HBf.out bz)
        have HNz := Lib.hid (below_block bz HNf.out)
        have HCz7 := Lib.hid (cell_on3 HCf7.out bz)
        have HSz := Lib.hid (HSf.out.below bz)
        have HMz := Lib.hid (HMf.out.below bz)
        have HZz : Hid (w8.heap.size ≤ wz.heap.size) := Lib.hid (Nat.le_trans HZf.out bz.size)
        clear bz HSO
        have k8 := HNz.out
        have c8 : wz.cell? ⟨W.heap.size, 0, none⟩ = some (.bool false) := by simp [World.cell?, k8]
        have f8 : wz.frozen? ⟨W.heap.size, 0, none⟩ = false := by simp [World.frozen?, k8]
        obtain ⟨Ye, hYe⟩ : ∃ y, wz.setCell ⟨W.heap.size, 0, none⟩ (.bool true) = y := ⟨_, rfl⟩
        have HC8 : Hid (Ye.heap[W.heap.size]? = some (.cells #[.bool true] 4 (0, 0))) := Lib.hid (by rw [← hYe]; exact heap_set0 _ k8)
        have HBF : Hid (Below W.heap.size W Ye) := Lib.hid (by rw [← hYe]; exact HBz.out.setCell (p := ⟨W.heap.size, 0, none⟩) (Nat.le_refl _) _)
        have HMF := Lib.hid (HMz.out.keep (by rw [← hYe]; exact KeepsOthers.setCell wz ⟨W.heap.size, 0, none⟩ (.bool true) : KeepsOthers wz Ye))
        have HZF : Hid (w8.heap.size ≤ Ye.heap.size) := Lib.hid (by rw [← hYe]; have := HZz.out; simpa using this)
        clear k8
        gi_wp2_with fail
        refine HMF.out.leaves HZF.out fun w' hb' => ?_
        have hc7 := (hb'.block W.heap.size HG8.out).trans HC8.out
        have hc8 : w'.cell? ⟨W.heap.size, 0, none⟩ = some (.bool true) := by simp [World.cell?, hc7]
        refine ⟨.bool true, ?_, rfl, HBF.out.trans (hb'.mono (Nat.le_of_lt HG8.out))⟩
        simp [results, Try.f10, go_sem, hc8]
      · have a2 : 0 ≤ at_ := by omega
        have a3 : at_ ≥ 0 := by omega
        by_cases a4 : at_ ≤ (tl : Int)
        · have k8 := HNf.out
          have c8 : wr.cell? ⟨W.heap.size, 0, none⟩ = some (.bool false) := by simp [World.cell?, k8]
          have f8 : wr.frozen? ⟨W.heap.size, 0, none⟩ = false := by simp [World.frozen?, k8]
          obtain ⟨Ye, hYe⟩ : ∃ y, wr.setCell ⟨W.heap.size, 0, none⟩ (.bool true) = y := ⟨_, rfl⟩
          have HC8 : Hid (Ye.heap[W.heap.size]? = some (.cells #[.bool true] 4 (0, 0))) := Lib.hid (by rw [← hYe]; exact heap_set0 _ k8)
          have HBF : Hid (Below W.heap.size W Ye) := Lib.hid (by rw [← hYe]; exact HBf.out.setCell (p := ⟨W.heap.size, 0, none⟩) (Nat.le_refl _) _)
          have HMF := Lib.hid (HMf.out.keep (by rw [← hYe]; exact KeepsOthers.setCell wr ⟨W.heap.size, 0, none⟩ (.bool true) : KeepsOthers wr Ye))
          have HZF : Hid (w8.heap.size ≤ Ye.heap.size) := Lib.hid (by rw [← hYe]; have := HZf.out; simpa using this)
          clear k8
          gi_wp2_with fail
          refine HMF.out.leaves HZF.out fun w' hb' => ?_
          have hc7 := (hb'.block W.heap.size HG8.out).trans HC8.out
          have hc8 : w'.cell? ⟨W.heap.size, 0, none⟩ = some (.bool true) := by simp [World.cell?, hc7]
          refine ⟨.bool true, ?_, rfl, HBF.out.trans (hb'.mono (Nat.le_of_lt HG8.out))⟩
          simp [results, Try.f10, go_sem, hc8]
        · have a5 : decide (at_ ≤ (tl : Int)) = false := decide_eq_false a4
          have HSO := Lib.hid (some_off HSf.out HY.out.1 HE2.out HIDX.out (at_ := at_) (.inr (by rw [HTX.out]; omega)))
          have c7 := HCf7.out
          gi_wp2_with fail
          first | refine callsIn_wide.2 (HSO.out.mono ?_) | refine ⟨(fun h => by cases h), callsIn_wide.2 (HSO.out.mono ?_)⟩ | refine ⟨trivial, (fun h => by cases h), callsIn_wide.2 (HSO.out.mono ?_)⟩
          rintro e wz ⟨rfl, bz⟩
          have HBz := Lib.hid (Below.after HBf.out bz)
          have HNz := Lib.hid (below_block bz HNf.out)
          have HCz7 := Lib.hid (cell_on3 HCf7.out bz)
          have HSz := Lib.hid (HSf.out.below bz)
          have HMz := Lib.hid (HMf.out.below bz)
          have HZz : Hid (w8.heap.size ≤ wz.heap.size) := Lib.hid (Nat.le_trans HZf.out bz.size)
          clear bz HSO
          have k8 := HNz.out
          have c8 : wz.cell? ⟨W.heap.size, 0, none⟩ = some (.bool false) := by simp [World.cell?, k8]
          have f8 : wz.frozen? ⟨W.heap.size, 0, none⟩ = false := by simp [World.frozen?, k8]
          obtain ⟨Ye, hYe⟩ : ∃ y, wz.setCell ⟨W.heap.size, 0, none⟩ (.bool true) = y := ⟨_, rfl⟩
          have HC8 : Hid (Ye.heap[W.heap.size]? = some (.cells #[.bool true] 4 (0, 0))) := Lib.hid (by rw [← hYe]; exact heap_set0 _ k8)
          have HBF : Hid (Below W.heap.size W Ye) := Lib.hid (by rw [← hYe]; exact HBz.out.setCell (p := ⟨W.heap.size, 0, none⟩) (Nat.le_refl _) _)
          have HMF := Lib.hid (HMz.out.keep (by rw [← hYe]; exact KeepsOthers.setCell wz ⟨W.heap.size, 0, none⟩ (.bool true) : KeepsOthers wz Ye))
          have HZF : Hid (w8.heap.size ≤ Ye.heap.size) := Lib.hid (by rw [← hYe]; have := HZz.out; simpa using this)
          clear k8
          gi_wp2_with fail
          refine HMF.out.leaves HZF.out fun w' hb' => ?_
          have hc7 := (hb'.block W.heap.size HG8.out).trans HC8.out
          have hc8 : w'.cell? ⟨W.heap.size, 0, none⟩ = some (.bool true) := by simp [World.cell?, hc7]
          refine ⟨.bool true, ?_, rfl, HBF.out.trans (hb'.mono (Nat.le_of_lt HG8.out))⟩
          simp [results, Try.f10, go_sem, hc8]
    · have r3 : decide ((E2.length : Int) < raw) = false := decide_eq_false r2
      gi_wp2_with fail
      first | refine callsIn_wide.2 (HLN.out.mono ?_) | refine ⟨(fun h => by cases h), callsIn_wide.2 (HLN.out.mono ?_)⟩ | refine ⟨trivial, (fun h => by cases h), callsIn_wide.2 (HLN.out.mono ?_)⟩
      rintro e w ⟨rfl, h⟩
      rw [h]
      clear h w c7 HLN
      by_cases a1 : at_ < 0
      · have a2 : ¬ 0 ≤ at_ := by omega
        have a3 : ¬ at_ ≥ 0 := by omega
        have a4 : decide (0 ≤ at_) = false := decide_eq_false a2
        have HSO := Lib.hid (some_off HSe.out HY.out.1 HE2.out HIDX.out (at_ := at_) (.inl a1))
        have c7 := HCe7.out
        gi_wp2_with fail
        first | refine callsIn_wide.2 (HSO.out.mono ?_) | refine ⟨(fun h => by cases h), callsIn_wide.2 (HSO.out.mono ?_)⟩ | refine ⟨trivial, (fun h => by cases h), callsIn_wide.2 (HSO.out.mono ?_)⟩
        rintro e wz ⟨rfl, bz⟩
        have HBz := Lib.hid (Below.after HBe.out bz)
        have HNz := Lib.hid (below_block bz HNe.out)
        have HCz7 := Lib.hid (cell_on3 HCe7.out bz)
        have HSz := Lib.hid (HSe.out.below bz)
        have HMz := Lib.hid (HMe.out.below bz)
        have HZz : Hid (w8.heap.size ≤ wz.heap.size) := Lib.hid (Nat.le_trans HZe.out bz.size)
        clear bz HSO
        have k8 := HNz.out
        have c8 : wz.cell? ⟨W.heap.size, 0, none⟩ = some (.bool false) := by simp [World.cell?, k8]
        have f8 : wz.frozen? ⟨W.heap.size, 0, none⟩ = false := by simp [World.frozen?, k8]
        obtain ⟨Ye, hYe⟩ : ∃ y, wz.setCell ⟨W.heap.size, 0, none⟩ (.bool true) = y := ⟨_, rfl⟩
        have HC8 : Hid (Ye.heap[W.heap.size]? = some (.cells #[.bool true] 4 (0, 0))) := Lib.hid (by rw [← hYe]; exact heap_set0 _ k8)
        have HBF : Hid (Below W.heap.size W Ye) := Lib.hid (by rw [← hYe]; exact HBz.out.setCell (p := ⟨W.heap.size, 0, none⟩) (Nat.le_refl _) _)
        have HMF := Lib.hid (HMz.out.keep (by rw [← hYe]; exact KeepsOthers.setCell wz ⟨W.heap.size, 0, none⟩ (.bool true) : KeepsOthers wz Ye))
        have HZF : Hid (w8.heap.size ≤ Ye.heap.size) := Lib.hid (by rw [← hYe]; have := HZz.out; simpa using this)
        clear k8
        gi_wp2_with fail
        refine HMF.out.leaves HZF.out fun w' hb' => ?_
        have hc7 := (hb'.block W.heap.size HG8.out).trans HC8.out
        have hc8 : w'.cell? ⟨W.heap.size, 0, none⟩ = some (.bool true) := by simp [World.cell?, hc7]
        refine ⟨.bool true, ?_, rfl, HBF.out.trans (hb'.mono (Nat.le_of_lt HG8.out))⟩
        simp [results, Try.f10, go_sem, hc8]
      · have a2 : 0 ≤ at_ := by omega
        have a3 : at_ ≥ 0 := by omega
        by_cases a4 : at_ ≤ (tl : Int)
        · have k8 := HNe.out
          have c8 : Y1.cell? ⟨W.heap.size, 0, none⟩ = some (.bool false) := by simp [World.cell?, k8]
          have f8 : Y1.frozen? ⟨W.heap.size, 0, none⟩ = false := by simp [World.frozen?, k8]
          obtain ⟨Ye, hYe⟩ : ∃ y, Y1.setCell ⟨W.heap.size, 0, none⟩ (.bool true) = y := ⟨_, rfl⟩
          have HC8 : Hid (Ye.heap[W.heap.size]? = some (.cells #[.bool true] 4 (0, 0))) := Lib.hid (by rw [← hYe]; exact heap_set0 _ k8)
          have HBF : Hid (Below W.heap.size W Ye) := Lib.hid (by rw [← hYe]; exact HBe.out.setCell (p := ⟨W.heap.size, 0, none⟩) (Nat.le_refl _) _)
          have HMF := Lib.hid (HMe.out.keep (by rw [← hYe]; exact KeepsOthers.setCell Y1 ⟨W.heap.size, 0, none⟩ (.bool true) : KeepsOthers Y1 Ye))
          have HZF : Hid (w8.heap.size ≤ Ye.heap.size) := Lib.hid (by rw [← hYe]; have := HZe.out; simpa using this)
          clear k8
          gi_wp2_with fail
          refine HMF.out.leaves HZF.out fun w' hb' => ?_
          have hc7 := (hb'.block W.heap.size HG8.out).trans HC8.out
          have hc8 : w'.cell? ⟨W.heap.size, 0, none⟩ = some (.bool true) := by simp [World.cell?, hc7]
          refine ⟨.bool true, ?_, rfl, HBF.out.trans (hb'.mono (Nat.le_of_lt HG8.out))⟩
          simp [results, Try.f10, go_sem, hc8]
        · have a5 : decide (at_ ≤ (tl : Int)) = false := decide_eq_false a4
          have HSO := Lib.hid (some_off HSe.out HY.out.1 HE2.out HIDX.out (at_ := at_) (.inr (by rw [HTX.out]; omega)))
          have c7 := HCe7.out
          gi_wp2_with fail
          first | refine callsIn_wide.2 (HSO.out.mono ?_) | refine ⟨(fun h => by cases h), callsIn_wide.2 (HSO.out.mono ?_)⟩ | refine ⟨trivial, (fun h => by cases h), callsIn_wide.2 (HSO.out.mono ?_)⟩
          rintro e wz ⟨rfl, bz⟩
          have HBz := Lib.hid (Below.after HBe.out bz)
          have HNz := Lib.hid (below_block bz HNe.out)
          have HCz7 := Lib.hid (cell_on3 HCe7.out bz)
          have HSz := Lib.hid (HSe.out.below bz)
          have HMz := Lib.hid (HMe.out.below bz)
          have HZz : Hid (w8.heap.size ≤ wz.heap.size) := Lib.hid (Nat.le_trans HZe.out bz.size)
          clear bz HSO
          have k8 := HNz.out
          have c8 : wz.cell? ⟨W.heap.size, 0, none⟩ = some (.bool false) := by simp [World.cell?, k8]
          have f8 : wz.frozen? ⟨W.heap.size, 0, none⟩ = false := by simp [World.frozen?, k8]
          obtain ⟨Ye, hYe⟩ : ∃ y, wz.setCell ⟨W.heap.size, 0, none⟩ (.bool true) = y := ⟨_, rfl⟩
          have HC8 : Hid (Ye.heap[W.heap.size]? = some (.cells #[.bool true] 4 (0, 0))) := Lib.hid (by rw [← hYe]; exact heap_set0 _ k8)
          have HBF : Hid (Below W.heap.size W Ye) := Lib.hid (by rw [← hYe]; exact HBz.out.setCell (p := ⟨W.heap.size, 0, none⟩) (Nat.le_refl _) _)
          have HMF := Lib.hid (HMz.out.keep (by rw [← hYe]; exact KeepsOthers.setCell wz ⟨W.heap.size, 0, none⟩ (.bool true) : KeepsOthers wz Ye))
          have HZF : Hid (w8.heap.size ≤ Ye.heap.size) := Lib.hid (by rw [← hYe]; have := HZz.out; simpa using this)
          clear k8
          gi_wp2_with fail
          refine HMF.out.leaves HZF.out fun w' hb' => ?_
          have hc7 := (hb'.block W.heap.size HG8.out).trans HC8.out
          have hc8 : w'.cell? ⟨W.heap.size, 0, none⟩ = some (.bool true) := by simp [World.cell?, hc7]
          refine ⟨.bool true, ?_, rfl, HBF.out.trans (hb'.mono (Nat.le_of_lt HG8.out))⟩
          simp [results, Try.f10, go_sem, hc8]
end M
end Go.Proofs.Ytpjcfepngjpfbaa
