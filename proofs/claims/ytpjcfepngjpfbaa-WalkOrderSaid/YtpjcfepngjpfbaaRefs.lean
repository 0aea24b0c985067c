/- WalkReferences: the walk. -/
import Derived.Test.YtpjcfepngjpfbaaAws
import Derived.Test.YtpjcfepngjpfbaaMds
import Derived.Test.YtpjcfepngjpfbaaBld14
import Derived.Test.YtpjcfepngjpfbaaRulIt
set_option linter.unusedVariables false
set_option linter.unusedSimpArgs false
namespace Go.Proofs.Ytpjcfepngjpfbaa
open Go.RowKit Go.Lib
namespace M
attribute [local go_sem] Oper.semAt_some
/-- An iterator over rules. -/
def SeqR (w : World) (v : Value) (E : List En) (id : Nat) : Prop := ∃ gf lb, v = .func (.func gf) #[] lb ∧ Enters Try.prog gf ∧ ∀ n, SeqStopsT Fence.wide n Try.prog gf lb encR (KpR RlK w.heap.size) RlT (fun ys => ys = ordF E id []) (fun pre => pre <+: ordF E id []) (fun pre x => RlN E id pre x) w
set_option maxRecDepth 100000 in
theorem rules_seq {n0 B most : Nat} {W : World} {E : List En} (hs : StAt n0 W B most E) (hwf : Wf E) (hE : E.length ≤ 1048576) {id : Nat} (h0 : 0 < id) (hid : id ≤ E.length) :
    Calls Try.prog 22 #[.pointer (some ⟨B, 0, none⟩), .int .i64 id] W fun e w' => ∃ v, e = .returned v ∧ SeqR w' v E id ∧ Below W.heap.size W w' := by
  refine (rules_some hs hE h0 hid).mono ?_
  rintro e w' ⟨rfl, hl, hb⟩
  exact ⟨_, rfl, ⟨_, _, rfl, enters_of Try.func55 (by kernel_rfl) rfl, fun n => rules_stops n hl (hs.below hb) hwf hE h0 hid rfl⟩, hb⟩
/-- What has been seen: 0, and what is out. -/
abbrev SeB (W : World) (g m : Nat) (S : List Nat) : Prop := Arr (fun b : Bool => Value.bool b) 4 W g m (fun _ => True) (fun i => decide (i = 0 ∨ i ∈ S))
theorem SeB.keepT {A C : World} {g m : Nat} {S : List Nat} (h : SeB A g m S) (hk : ∀ (b : Nat) (cs : Array Value) (fz : Nat × Nat), A.heap[b]? = some (.cells cs 4 fz) → C.heap[b]? = some (.cells cs 4 fz)) : SeB C g m S := by
  obtain ⟨cs, h1, h2, h3⟩ := h
  exact ⟨cs, hk _ _ _ h1, h2, h3⟩
theorem SeB.add {W : World} {g m : Nat} {S : List Nat} (h : SeB W g m S) (x : Nat) : SeB (W.setCell ⟨g, x, none⟩ (.bool true)) g m (S ++ [x]) := by
  obtain ⟨cs, h1, h2, h3⟩ := h
  refine ⟨_, heap_set _ h1, by simp [h2], fun k hk hd => ?_⟩
  by_cases e : x = k
  · subst e; rw [Array.getElem?_setIfInBounds_self_of_lt (by omega)]; simp
  · rw [Array.getElem?_setIfInBounds_ne e, h3 k hk hd]
    dsimp only
    have : decide (k = 0 ∨ k ∈ S ++ [x]) = decide (k = 0 ∨ k ∈ S) := by simp [Ne.symm e]
    rw [this]
theorem SeB.start {W : World} {g m : Nat} {cs : Array Value} (h1 : W.heap[g]? = some (.cells cs 4 (0, 0))) (h2 : cs.size = m) (h3 : ∀ i, i < m → cs[i]? = some (.bool false)) : SeB (W.setCell ⟨g, 0, none⟩ (.bool true)) g m [] := by
  refine ⟨_, heap_set _ h1, by simp [h2], fun k hk hd => ?_⟩
  by_cases e : 0 = k
  · subst e; rw [Array.getElem?_setIfInBounds_self_of_lt (by omega)]; simp
  · rw [Array.getElem?_setIfInBounds_ne e, h3 k hk]; simp; omega
theorem SeB.cellTrue {W : World} {g m : Nat} {S : List Nat} (h : SeB W g m S) {i : Nat} (hi : i < m) (hc : i = 0 ∨ i ∈ S) : W.cell? ⟨g, i, none⟩ = some (.bool true) := by
  rw [h.cell hi trivial]; simp [hc]
theorem SeB.cellFalse {W : World} {g m : Nat} {S : List Nat} (h : SeB W g m S) {i : Nat} (hi : i < m) (hc : ¬ (i = 0 ∨ i ∈ S)) : W.cell? ⟨g, i, none⟩ = some (.bool false) := by
  rw [h.cell hi trivial]; simp [hc]
set_option maxRecDepth 100000 in
set_option maxHeartbeats 8000000 in
theorem refs_any {W : World} {v : Value} {L : List Stp} (hL : RowStp W v L) {k : Nat} (hk : k ≤ 255) :
    Calls Try.prog 5 #[v, .int .u8 k] W fun e w' => e = .returned (.bool true) ∧ Below W.heap.size W w' := by
  have HF : ∀ f, Fence.wide.fn f := fun _ => trivial
  obtain ⟨W0, hW0⟩ : ∃ w, W.alloc (.cells #[.bool false] 4) = w := ⟨_, rfl⟩
  have n6 : W0.heap[W.heap.size]? = some (.cells #[.bool false] 4 (0, 0)) := by rw [← hW0]; exact heap_new' _ _
  have hb0 : Below W.heap.size W W0 := by rw [← hW0]; exact (Below.refl _ W).alloc (Nat.le_refl _) _
  have HBD := Lib.hid (build14_any (hL.under hb0 (Nat.le_refl _)))
  have HN6 := Lib.hid n6; have HB0 := Lib.hid hb0
  clear n6 hb0 hL
  refine (callsIn_wide (n := 9)).1 ?_
  refine callsIn_of_wp_marks Try.func5 rfl trivial ?_ rfl
  simp only [Try.ntmps5, List.size_toArray, List.length_cons, List.length_nil, Nat.reduceAdd, Nat.reduceSub, Array.replicate_succ, Array.replicate_zero, List.push_toArray, List.append_toArray, List.nil_append, List.cons_append]
  gi_wp2_with fail
  first | refine callsIn_wide.2 (HBD.out.mono ?_) | refine ⟨(fun h => by cases h), callsIn_wide.2 (HBD.out.mono ?_)⟩ | refine ⟨trivial, (fun h => by cases h), callsIn_wide.2 (HBD.out.mono ?_)⟩
  rintro e w1 ⟨B, E, ids, T, iv, lv, tv, rfl, s1, hwd, hEl, hil, hI, hT, hS, hO, b1⟩
  obtain ⟨ia, ic, rfl⟩ := hI.len
  obtain ⟨la, ll, lc, rfl⟩ : ∃ a l c, lv = .slice a l c := by obtain ⟨a, c, h⟩ := hT.len; exact ⟨a, _, c, h⟩
  obtain ⟨ta, tl', tc, rfl⟩ : ∃ a l c, tv = .slice a l c := by obtain ⟨a, c, h⟩ := hS.len; exact ⟨a, _, c, h⟩
  obtain ⟨il, hil2⟩ : ∃ y, ids.length = y := ⟨_, rfl⟩
  rw [hil2] at hI hil ⊢
  obtain ⟨wz2, w2, hz2, hs2, k7, b2, z7⟩ := newMd w1 B (.slice ia il ic) (.slice la ll lc) (.slice ta tl' tc)
  obtain ⟨g7, hg7⟩ : ∃ y, w1.heap.size = y := ⟨_, rfl⟩
  rw [hg7] at hs2 k7 z7
  obtain ⟨⟨p0, p1, p2, p3⟩, q0, q1, q2, q3⟩ := z7.cells
  have HAW := Lib.hid (awake17_any w2)
  have HB2 := Lib.hid (Below.after b1 b2)
  have HN6b := Lib.hid (below_block HB2.out HN6.out)
  have HM2 := Lib.hid k7; have HS2 := Lib.hid (s1.below b2); have HWD := Lib.hid hwd
  have HI2 := Lib.hid (SlA.below hI b2); have HBL := Lib.hid hO.bal
  have HEL := Lib.hid hEl; have HIL := Lib.hid (And.intro hil hil2)
  clear b1 b2 s1 hwd hEl hil hil2 hI hT hS hO k7 z7 HBD HN6
  gi_wp2_with fail
  first | refine callsIn_wide.2 (HAW.out.mono ?_) | refine ⟨(fun h => by cases h), callsIn_wide.2 (HAW.out.mono ?_)⟩ | refine ⟨trivial, (fun h => by cases h), callsIn_wide.2 (HAW.out.mono ?_)⟩
  rintro e w5 ⟨rfl, b5⟩
  have HN6d := Lib.hid (below_block b5 HN6b.out)
  have HM5 := Lib.hid (show McC w5 g7 B (.slice ia il ic) (.slice la ll lc) (.slice ta tl' tc) from below_block b5 HM2.out)
  have HS5 := Lib.hid (HS2.out.below b5)
  have HI5 := Lib.hid (SlA.below HI2.out b5)
  have HBW : Hid (Below W.heap.size W w5) := Lib.hid (Below.after HB0.out (Below.after HB2.out b5))
  obtain ⟨c0, c1, -, -⟩ := HM5.out.cells
  clear b5 HAW HN6b HM2 HS2 HI2 HB2 hz2 hs2 p0 p1 p2 p3 q0 q1 q2 q3 hW0
  by_cases hi0 : il = 0
  · have hb : ((il : Int) == 0) = true := by simp [hi0]
    have k8 := HN6d.out
    have c8 : w5.cell? ⟨W.heap.size, 0, none⟩ = some (.bool false) := by simp [World.cell?, k8]
    have f8 : w5.frozen? ⟨W.heap.size, 0, none⟩ = false := by simp [World.frozen?, k8]
    obtain ⟨Ye, hYe⟩ : ∃ y, w5.setCell ⟨W.heap.size, 0, none⟩ (.bool true) = y := ⟨_, rfl⟩
    have hc8 : Ye.cell? ⟨W.heap.size, 0, none⟩ = some (.bool true) := by
      have := heap_set0 (i := 0) (.bool true) k8
      rw [← hYe]; simp [World.cell?, this]
    have HBF : Hid (Below W.heap.size W Ye) := Lib.hid (by rw [← hYe]; exact HBW.out.setCell (p := ⟨W.heap.size, 0, none⟩) (Nat.le_refl _) _)
    clear k8
    gi_wp2_with fail
    refine ⟨.bool true, ?_, rfl, HBF.out⟩
    simp [results, Try.f5, go_sem, hc8]
  · have hb : ((il : Int) == 0) = false := by simp; omega
    have hkm : k % il < il := Nat.mod_lt _ (by omega)
    obtain ⟨gi, rfl⟩ : ∃ gi, ia = some ⟨gi, 0, none⟩ := by
      rcases HI5.out.shape with ⟨h, hn⟩ | ⟨g, c, h, -⟩
      · have := HIL.out.2; rw [hn] at this; simp at this; omega
      · simp only [Value.slice.injEq] at h; exact ⟨g, h.1⟩
    have hli : k % il < ids.length := by rw [HIL.out.2]; exact hkm
    obtain ⟨id, hid⟩ : ∃ y, ids[k % il]'hli = y := ⟨_, rfl⟩
    have HBI := Lib.hid (HBL.out id (by rw [← hid]; exact List.getElem_mem _))
    have hci : w5.cell? ⟨gi, k % il, none⟩ = some (.int .i64 id) := by
      have h := SlA.cell encI_len HI5.out hli (j := 0) (by omega)
      rw [hid, Nat.mul_one, Nat.add_zero] at h
      exact h
    have HID : Hid (0 < id ∧ id ≤ E.length) := Lib.hid ⟨HBI.out.1, HBI.out.2.le⟩
    have hkw : IntKind.i64.wrap (k : Int) = (k : Int) := by rw [IntKind.wrap_i64]; omega
    have hkt : Int.tmod (k : Int) (il : Int) = ((k % il : Nat) : Int) := rfl
    have hkq : IntKind.i64.wrap ((k % il : Nat) : Int) = ((k % il : Nat) : Int) := by rw [IntKind.wrap_i64]; have := HIL.out.1; omega
    obtain ⟨q, hq⟩ : ∃ y, k % il = y := ⟨_, rfl⟩
    rw [hq] at hkm hci hkt hkq
    have d0 : ∀ w, Below w5.heap.size w5 w → w.cell? ⟨g7, 1, none⟩ = some (.slice (some ⟨gi, 0, none⟩) il ic) := fun w hw => cell_on3 c1 hw
    have d1 : ∀ w, Below w5.heap.size w5 w → w.cell? ⟨gi, q, none⟩ = some (.int .i64 id) := fun w hw => cell_on3 hci hw
    have hi1 : ¬ (il : Int) = 0 := by omega
    have hqi : (q : Int) < (il : Int) := by omega
    clear hid hli hq
    gi_wp2_with fail
    refine wpIn_region_anyNP (Below w5.heap.size w5) (by kernel_rfl) ?_
    obtain ⟨wd, hwd⟩ : ∃ y, w5.drew = y := ⟨_, rfl⟩
    have B0 : Below w5.heap.size w5 wd := by rw [← hwd]; exact (Below.refl _ _).drew
    rw [hwd]
    clear hwd
    refine AnyH.take (i := 0) (d := some 28) (v := ?_) (by kernel_rfl) rfl rfl HF (fun _ _ _ h => h) (.inl ⟨by rfl, ?_⟩) (by first | assumption | rfl) ?_
    rotate_left
    · intro w hS; try subst hS
      go_simp; try with_reducible rfl
    try simp only [Act.put, List.setIfInBounds_toArray, List.set_cons_zero, List.set_cons_succ]
    refine AnyH.take (i := 1) (d := some 29) (v := ?_) (by kernel_rfl) rfl rfl HF (fun _ _ _ h => h) (.inl ⟨by rfl, ?_⟩) (by first | assumption | rfl) ?_
    rotate_left
    · intro w hS; try subst hS
      go_simp; try with_reducible rfl
    try simp only [Act.put, List.setIfInBounds_toArray, List.set_cons_zero, List.set_cons_succ]
    refine AnyH.take (i := 2) (d := some 30) (v := ?_) (by kernel_rfl) rfl rfl HF (fun _ _ _ h => h) (.inl ⟨by rfl, ?_⟩) (by first | assumption | rfl) ?_
    rotate_left
    · intro w hS; try subst hS
      go_simp; try with_reducible rfl
    try simp only [Act.put, List.setIfInBounds_toArray, List.set_cons_zero, List.set_cons_succ]
    refine AnyH.take (i := 3) (d := some 31) (v := ?_) (by kernel_rfl) rfl rfl HF (fun _ _ _ h => h) (.inl ⟨by rfl, ?_⟩) (by first | assumption | rfl) ?_
    rotate_left
    · intro w hS; try subst hS
      go_simp; try with_reducible rfl
    try simp only [Act.put, List.setIfInBounds_toArray, List.set_cons_zero, List.set_cons_succ]
    refine AnyH.take (i := 4) (d := some 32) (v := ?_) (by kernel_rfl) rfl rfl HF (fun _ _ _ h => h) (.inl ⟨by rfl, ?_⟩) (by first | assumption | rfl) ?_
    rotate_left
    · intro w hS; try subst hS
      go_simp; try with_reducible rfl
    try simp only [Act.put, List.setIfInBounds_toArray, List.set_cons_zero, List.set_cons_succ]
    refine AnyH.take (i := 5) (d := some 33) (v := ?_) (by kernel_rfl) rfl rfl HF (fun _ _ _ h => h) (.inl ⟨by rfl, ?_⟩) (by first | assumption | rfl) ?_
    rotate_left
    · intro w hS; try subst hS
      go_simp; try with_reducible rfl
    try simp only [Act.put, List.setIfInBounds_toArray, List.set_cons_zero, List.set_cons_succ]
    refine AnyH.take (i := 6) (d := some 34) (v := ?_) (by kernel_rfl) rfl rfl HF (fun _ _ _ h => h) (.inl ⟨by rfl, ?_⟩) (by first | assumption | rfl) ?_
    rotate_left
    · intro w hS; try subst hS
      go_simp; try with_reducible rfl
    try simp only [Act.put, List.setIfInBounds_toArray, List.set_cons_zero, List.set_cons_succ]
    refine AnyH.take (i := 7) (d := some 35) (v := ?_) (by kernel_rfl) rfl rfl HF (fun _ _ _ h => h) (.inl ⟨by rfl, ?_⟩) (by first | assumption | rfl) ?_
    rotate_left
    · intro w hS; try subst hS
      go_simp; try with_reducible rfl
    try simp only [Act.put, List.setIfInBounds_toArray, List.set_cons_zero, List.set_cons_succ]
    refine AnyH.take (i := 8) (d := some 36) (v := ?_) (by kernel_rfl) rfl rfl HF (fun _ _ _ h => h) (.inl ⟨by rfl, ?_⟩) (by first | assumption | rfl) ?_
    rotate_left
    · intro w hS; try subst hS
      go_simp; try with_reducible rfl
    try simp only [Act.put, List.setIfInBounds_toArray, List.set_cons_zero, List.set_cons_succ]
    refine AnyH.take (i := 9) (d := some 37) (v := ?_) (by kernel_rfl) rfl rfl HF (fun _ _ _ h => h) (.inl ⟨by rfl, ?_⟩) (by first | assumption | rfl) ?_
    rotate_left
    · intro w hS; try subst hS
      go_simp; try with_reducible rfl
    try simp only [Act.put, List.setIfInBounds_toArray, List.set_cons_zero, List.set_cons_succ]
    refine AnyH.take (i := 10) (d := some 7) (v := ?_) (by kernel_rfl) rfl rfl HF (fun _ _ _ h => h) (.inl ⟨by rfl, ?_⟩) (by first | assumption | rfl) ?_
    rotate_left
    · intro w hS; try subst hS
      go_simp; try with_reducible rfl
    try simp only [Act.put, List.setIfInBounds_toArray, List.set_cons_zero, List.set_cons_succ]
    refine AnyH.done (by kernel_rfl) ?_
    refine NP.normal ?_
    have HSd := Lib.hid (HS5.out.below B0)
    have HNd := Lib.hid (below_block B0 HN6d.out)
    have HMd := Lib.hid (show McC wd g7 B (.slice (some ⟨gi, 0, none⟩) il ic) (.slice la ll lc) (.slice ta tl' tc) from below_block B0 HM5.out)
    have HBd := Lib.hid (Below.after HBW.out B0)
    obtain ⟨e0, -, -, -⟩ := HMd.out.cells
    have HLN := Lib.hid (slen_any HSd.out)
    obtain ⟨m, hm⟩ : ∃ y, E.length + 1 = y := ⟨_, rfl⟩
    have hmw : IntKind.i64.wrap ((E.length : Int) + 1) = (m : Int) := by rw [IntKind.wrap_i64]; have := HEL.out; omega
    have HMM : Hid (m = E.length + 1 ∧ m ≤ 23401) := Lib.hid (by have := HEL.out; omega)
    have hmk : (Instr.makeSlice 53 (.int .i64 (m : Int)) (.int .i64 (m : Int))).run Try.prog wd = .ok (.slice (some ⟨wd.heap.size, 0, none⟩) m m) (wd.alloc (.cells (madeCells #[.bool false] m) 4)) := by
      have h := mk_run (P := Try.prog) (t := 53) (e := 4) (z := .bool false) (size := 1) (bytes := 1) Try.underlying53 (by kernel_rfl) m m (Nat.le_refl _) (by have := HMM.out.2; omega) (by have := HMM.out.2; omega) wd
      rw [Nat.mul_one] at h
      exact h
    obtain ⟨wm, hwm⟩ : ∃ y, wd.alloc (.cells (madeCells #[.bool false] m) 4) = y := ⟨_, rfl⟩
    have km : wm.heap[wd.heap.size]? = some (.cells (madeCells #[Value.bool false] m) 4 (0, 0)) := by
      rw [← hwm]; exact heap_new' _ _
    have bm : Below wd.heap.size wd wm := by rw [← hwm]; exact (Below.refl _ _).alloc (Nat.le_refl _) _
    obtain ⟨gs, hgs⟩ : ∃ y, wd.heap.size = y := ⟨_, rfl⟩
    rw [hgs] at km hmk
    obtain ⟨wy, w8, hy8, hs8, k8, b8, z8, f8⟩ := newBx wm 53 (.slice none 0 0) (.slice (some ⟨gs, 0, none⟩) m m)
    obtain ⟨g8, hg8⟩ : ∃ y, wm.heap.size = y := ⟨_, rfl⟩
    rw [hg8] at hs8 k8 z8 f8
    have k8s := below_block b8 km
    obtain ⟨w9, hw9⟩ : ∃ y, w8.setCell ⟨gs, 0, none⟩ (.bool true) = y := ⟨_, rfl⟩
    have hgs8 : gs < g8 := by rw [← hg8]; exact (Array.getElem?_eq_some_iff.1 km).1
    have se9 : SeB w9 gs m [] := by rw [← hw9]; exact SeB.start k8s (by simp [size_madeCells]) (fun i hi => madeCells_get hi)
    have cs8 : w8.cell? ⟨gs, 0, none⟩ = some (.bool false) := by
      have h := madeCells_get (z := Value.bool false) (n := m) (i := 0) (by have := HMM.out.1; omega)
      simp [World.cell?, k8s, h]
    have fs8 : w8.frozen? ⟨gs, 0, none⟩ = false := by simp [World.frozen?, k8s]
    have cb8 : w8.cell? ⟨g8, 0, none⟩ = some (.slice (some ⟨gs, 0, none⟩) m m) := by simp [World.cell?, k8]
    have k89 : w9.heap[g8]? = some (.cells #[.slice (some ⟨gs, 0, none⟩) m m] 53 (0, 0)) := by rw [← hw9]; exact set_other (by omega) k8
    have b89 : Below gs wd w9 := by rw [← hw9]; exact ((hgs ▸ Below.after bm b8 : Below gs wd w8)).setCell (p := ⟨gs, 0, none⟩) (Nat.le_refl _) _
    have b89' : Below wd.heap.size wd w9 := by rw [hgs]; exact b89
    obtain ⟨wz, w10, hz10, hs10, k10, b10, z10, f10⟩ := newBx w9 31 (.int .i64 0) (.int .i64 0)
    obtain ⟨g10, hg10⟩ : ∃ y, w9.heap.size = y := ⟨_, rfl⟩
    rw [hg10] at hs10 k10 z10 f10
    have bd10 := Below.after b89' b10
    have HSE := Lib.hid (se9.below b10)
    have HK8 := Lib.hid (below_block b10 k89)
    have HK10 := Lib.hid k10
    have HSX := Lib.hid (HSd.out.below bd10)
    have HNX := Lib.hid (below_block bd10 HNd.out)
    have HMX := Lib.hid (show McC w10 g7 B (.slice (some ⟨gi, 0, none⟩) il ic) (.slice la ll lc) (.slice ta tl' tc) from below_block bd10 HMd.out)
    have HBX := Lib.hid (Below.after HBd.out bd10)
    have HGG : Hid (gs < g8 ∧ g8 < g10 ∧ W.heap.size ≤ gs) := Lib.hid ⟨hgs8, by rw [← hg10]; exact (Array.getElem?_eq_some_iff.1 k89).1, by rw [← hgs]; exact HBd.out.size⟩
    have HG7s : Hid (g7 < gs) := Lib.hid (by rw [← hgs]; exact (Array.getElem?_eq_some_iff.1 (show wd.heap[g7]? = _ from HMd.out)).1)
    have HGW : Hid (W.heap.size < gs) := Lib.hid (by rw [← hgs]; exact (Array.getElem?_eq_some_iff.1 HNd.out).1)
    have HRS := Lib.hid (rules_seq HSX.out HWD.out.wf (by have := HEL.out; omega) HID.out.1 HID.out.2)
    obtain ⟨y0, -, -, -⟩ := HMX.out.cells
    have hm0 : (0 : Int) < (m : Int) := by have := HMM.out.1; omega
    clear hkm hci hkt hkq hkw d0 d1 hi1 hqi c0 c1 km bm k8 b8 k8s se9 k89 b89 b89' k10 b10 bd10 B0 HSd HNd HMd HS5 HN6d HM5 HI5 HBW hgs8 hm
    gi_wp2_with fail
    first | refine callsIn_wide.2 (HLN.out.mono ?_) | refine ⟨(fun h => by cases h), callsIn_wide.2 (HLN.out.mono ?_)⟩ | refine ⟨trivial, (fun h => by cases h), callsIn_wide.2 (HLN.out.mono ?_)⟩
    rintro e w ⟨rfl, h⟩
    rw [h]
    clear h w HLN
    gi_wp2_with fail
    first | refine callsIn_wide.2 (HRS.out.mono ?_) | refine ⟨(fun h => by cases h), callsIn_wide.2 (HRS.out.mono ?_)⟩ | refine ⟨trivial, (fun h => by cases h), callsIn_wide.2 (HRS.out.mono ?_)⟩
    rintro e w11 ⟨vq, rfl, ⟨gf, lb, rfl, hen, hst⟩, b11⟩
    clear hmw hmk hwm hgs hy8 hs8 hw9 hg8 z8 f8 cs8 fs8 cb8 hz10 hs10 hg10 z10 f10 y0 hm0 HRS e0
    obtain ⟨ls, hls⟩ : ∃ l : List (Nat × Array Value × TypeId), [(W.heap.size, #[.bool false], 4), (g7, #[.pointer (some ⟨B, 0, none⟩), .slice (some ⟨gi, 0, none⟩) il ic, .slice la ll lc, .slice ta tl' tc], 28), (g8, #[.slice (some ⟨gs, 0, none⟩) m m], 53)] = l := ⟨_, rfl⟩
    have HSB : Hid (SB ls w11) := Lib.hid (by
      intro p hp
      rw [← hls] at hp
      simp only [List.mem_cons, List.not_mem_nil, or_false] at hp
      rcases hp with rfl | rfl | rfl
      · exact below_block b11 HNX.out
      · exact below_block b11 HMX.out
      · exact below_block b11 HK8.out)
    have HCL : Hid (∀ Y, SB ls Y → Y.cell? ⟨g7, 0, none⟩ = some (.pointer (some ⟨B, 0, none⟩)) ∧ Y.cell? ⟨g8, 0, none⟩ = some (.slice (some ⟨gs, 0, none⟩) m m) ∧ Y.heap[W.heap.size]? = some (.cells #[.bool false] 4 (0, 0)) ∧ True) := Lib.hid (fun Y hY => by
      subst hls
      exact ⟨(hY.cell (g := g7) (cs := #[.pointer (some ⟨B, 0, none⟩), .slice (some ⟨gi, 0, none⟩) il ic, .slice la ll lc, .slice ta tl' tc]) (t := 28) (by simp) 0).1, (hY.cell (g := g8) (cs := #[.slice (some ⟨gs, 0, none⟩) m m]) (t := 53) (by simp) 0).1, hY (W.heap.size, #[.bool false], 4) (by simp), trivial⟩)
    have HTY : Hid (∀ p ∈ ls, p.2.2 ∉ RlT) := Lib.hid (fun p hp => by
      subst hls
      simp only [List.mem_cons, List.not_mem_nil, or_false] at hp
      rcases hp with rfl | rfl | rfl <;> (dsimp only; decide))
    have HG7 : Hid (g7 < gs) := Lib.hid HG7s.out
    have HLT : Hid (∀ p ∈ ls, p.1 ≠ gs ∧ p.1 ≠ g10) := Lib.hid (fun p hp => by
      subst hls
      have h1 := HGG.out; have h2 := HG7.out; have h3 := HGW.out
      simp only [List.mem_cons, List.not_mem_nil, or_false] at hp
      rcases hp with rfl | rfl | rfl <;> (dsimp only; omega))
    clear hls
    have HEN := Lib.hid hen; have HST := Lib.hid hst
    have HJ : Hid (StJ [] ls W W0.heap.size w11.heap.size B E w11) := Lib.hid ⟨HSB.out, (HSX.out.below b11).b (Nat.le_refl _), Below.after HBX.out b11, by simp⟩
    have HSE11 := Lib.hid (HSE.out.below b11)
    have HK11 := Lib.hid (below_block b11 HK10.out)
    have HWZ : Hid (W.heap.size ≤ w11.heap.size) := Lib.hid HJ.out.2.2.1.size
    have HGT : Hid (gs < w11.heap.size ∧ g10 < w11.heap.size ∧ W.heap.size < w11.heap.size) := Lib.hid ⟨HSE11.out.lt, (Array.getElem?_eq_some_iff.1 HK11.out).1, (Array.getElem?_eq_some_iff.1 (HCL.out w11 HSB.out).2.2.1).1⟩
    have HE2 : Hid (E.length ≤ 1048576) := Lib.hid (by have := HEL.out; omega)
    clear hen hst b11 HSB HSE HK10 HSX HNX HMX HBX HK8
    gi_wp2_with fail
    refine wpIn_rangeFunc_T rfl (by omega) (gf := gf) (lb := lb) rfl trivial HEN.out (HST.out 8) KpR.trans (fun X l o o' hl ho hc _ => KpR.put X l o o' hl ho hc) (Below.refl _ _) (fun _ => rfl)
      (fun pre Y => StJ [] ls W W0.heap.size w11.heap.size B E Y ∧ SeB Y gs m pre ∧ Y.heap[g10]? = some (.cells #[.int .i64 (pre.getLastD 0 : Nat)] 31 (0, 0)))
      (fun c pre Y => False)
      (fun s A C row hs hg hr => ⟨hs.1.own hg hr (Nat.le_refl _) HWZ.out, by obtain ⟨cs, h1, h2⟩ := hs.2.1; exact ⟨cs, own_cells hg hr h1, h2⟩, own_cells hg hr hs.2.2⟩)
      (fun c s A C row hs => hs.elim)
      (fun s A C hs h => ⟨hs.1.kpl h HTY.out (by decide) (by decide) HWZ.out, SeB.keepT hs.2.1 (fun b cs fz e => h.cells _ (by decide) b cs fz e), (h.below.block g10 HGT.out.2.1).trans hs.2.2⟩)
      (fun c s A C hs => hs.elim)
      ⟨HJ.out, HSE11.out, HK11.out⟩ ?round ?done (fun D c pre Y hD hp hx => hx.elim)
    case round =>
      intro l pre x Y Yb K hI hlen hK
      have HF : ∀ f, (Fence.wide.inRound l).fn f := fun _ => trivial
      have HK := Lib.hid hK
      clear hK
      gi_wp2_with fail
      refine HK.out _ ?_
      clear HK
      obtain ⟨h1, h2, h3⟩ := hI
      obtain ⟨e7, e8, -, -⟩ := HCL.out Yb h1.1
      have hxm : x < m := by have h1 := HMM.out.1; have h2 := HID.out; have h3 := hlen.le; omega
      have cx := SeB.cellFalse h2 hxm (fun h => h.elim (fun h => by have := hlen.pos; omega) hlen.new)
      have hx1 : ¬ (x : Int) < 1 := by have := hlen.pos; omega
      have hx2 : ¬ (m : Int) ≤ (x : Int) := by omega
      have hx3 : (x : Int) < (m : Int) := by omega
      have hxe : x ≤ E.length := by have h2 := HID.out; have h3 := hlen.le; omega
      have HRU := Lib.hid (rule_any h1.2.1.st hlen.pos hxe HE2.out)
      obtain ⟨hl, hr⟩ := refs_lt HWD.out.wf hlen.pos hxe
      have HLR := Lib.hid (And.intro hlen.left hlen.right)
      obtain ⟨r, hre⟩ : ∃ r, (entAt E x).ru = r := ⟨_, rfl⟩
      rw [hre] at HRU hl hr HLR
      unfold ruV at HRU
      have hlm : r.left < m := by omega
      have hrm : r.right < m := by omega
      have HJR := Lib.hid h1; have H2 := Lib.hid h2; have H3 := Lib.hid h3
      have HXM := Lib.hid hxm; have HNEW := Lib.hid hlen.new; have HPOS := Lib.hid hlen.pos
      clear h1 h2 h3 hlen hre hxe hl hr
      gi_wp2_with fail
      first | refine callsIn_wide.2 (HRU.out.mono ?_) | refine CallsIn.inRound l (callsIn_wide.2 (HRU.out.mono ?_)) | refine ⟨(fun h => by cases h), CallsIn.inRound l (callsIn_wide.2 (HRU.out.mono ?_))⟩ | refine ⟨trivial, (fun h => by cases h), CallsIn.inRound l (callsIn_wide.2 (HRU.out.mono ?_))⟩
      rintro e Yc ⟨rfl, bc⟩
      obtain ⟨wz, Yd, hz, hs2, kr, br, ⟨r0, r1, r2, r3, r4⟩, e0, e1, e2, e3, e4⟩ := newRu Yc r
      obtain ⟨gr, hgr⟩ : ∃ y, Yc.heap.size = y := ⟨_, rfl⟩
      rw [hgr] at hs2 kr r0 r1 r2 r3 r4 e0 e1 e2 e3 e4
      obtain ⟨q0, q1, q2, q3, q4⟩ := kr.cells
      have bd := Below.after bc br
      have hj := HJR.out.below bd
      obtain ⟨f7, f8, -, -⟩ := HCL.out Yd hj.1
      have se := H2.out.below bd
      have k3 := below_block bd H3.out
      have cl := SeB.cellTrue se hlm HLR.out.1
      have cr := SeB.cellTrue se hrm HLR.out.2
      have hl2 : (r.left : Int) < (m : Int) := by omega
      have hr2 : (r.right : Int) < (m : Int) := by omega
      have se0 : SeB Yd gs m pre := se
      obtain ⟨cs5, hcs, -⟩ := se0
      obtain ⟨Ye, hYe⟩ : ∃ y, Yd.setCell ⟨gs, x, none⟩ (.bool true) = y := ⟨_, rfl⟩
      obtain ⟨Yf, hYf⟩ : ∃ y, Ye.setCell ⟨g10, 0, none⟩ (.int .i64 x) = y := ⟨_, rfl⟩
      have cxd := SeB.cellFalse se HXM.out (fun h => h.elim (fun h => by have := HPOS.out; omega) HNEW.out)
      have fxd := se.free x
      have se2 : SeB Ye gs m (pre ++ [x]) := by rw [← hYe]; exact SeB.add se x
      have hne : g10 ≠ gs := by have := HGG.out; omega
      have k3e : Ye.heap[g10]? = some (.cells #[.int .i64 (pre.getLastD 0 : Nat)] 31 (0, 0)) := by rw [← hYe]; exact set_other hne k3
      have cke : Ye.cell? ⟨g10, 0, none⟩ = some (.int .i64 (pre.getLastD 0 : Nat)) := by simp [World.cell?, k3e]
      have fke : Ye.frozen? ⟨g10, 0, none⟩ = false := by simp [World.frozen?, k3e]
      obtain ⟨e7e, e8e, -, -⟩ : Ye.cell? ⟨g7, 0, none⟩ = some (.pointer (some ⟨B, 0, none⟩)) ∧ Ye.cell? ⟨g8, 0, none⟩ = some (.slice (some ⟨gs, 0, none⟩) m m) ∧ True ∧ True := by
        have h := HCL.out Ye (by rw [← hYe]; exact hj.1.set _ (fun p hp => (HLT.out p hp).1))
        exact ⟨h.1, h.2.1, trivial, trivial⟩
      have hje : StJ [] ls W W0.heap.size w11.heap.size B E Ye := by rw [← hYe]; exact hj.set hcs (by decide) (by decide) (fun p hp => (HLT.out p hp).1) HGG.out.2.2 _
      have HFIN : Hid (StJ [] ls W W0.heap.size w11.heap.size B E Yf ∧ SeB Yf gs m (pre ++ [x]) ∧ Yf.heap[g10]? = some (.cells #[.int .i64 ((pre ++ [x]).getLastD 0 : Nat)] 31 (0, 0)) ∧ KeepsOthers Yb Yf ∧ KpR RlK w11.heap.size Yb Yf) := Lib.hid (by
        refine ⟨?_, ?_, ?_, ?_, ?_⟩
        · rw [← hYf]; exact hje.set k3e (by decide) (by decide) (fun p hp => (HLT.out p hp).2) (by have := HGG.out; omega) _
        · rw [← hYf]; exact Arr.other se2 _ (Ne.symm hne)
        · rw [← hYf, show (pre ++ [x]).getLastD 0 = x by simp]; exact heap_set0 _ k3e
        · rw [← hYf, ← hYe]; exact keepsOthers_setCell (keepsOthers_setCell (keepsOthers_below bd) _ _) _ _
        · rw [← hYf]
          refine KpR.set ?_ k3e (by decide) HGT.out.2.1 _
          rw [← hYe]
          exact (KpR.below bd).set hcs (by decide) HGT.out.1 _)
      clear hj bd bc kr br se k3 k3e se2 hje hcs hne H2 H3 HJR HRU e7 e8 cx
      gi_wp2_with fail
      obtain ⟨k1, k2, k3, k4, k5⟩ := HFIN.out
      exact ⟨k4, k5, k1, k2, k3⟩
    case done =>
      rintro D xs Y hD rfl ⟨hj, -, h3⟩ hDc
      have HMF0 : Hid (Marks w11.heap.size Y [{ target := .collected D, args := #[] }]) := Lib.hid ((Marks.nil _ Y).cons (fun D' h => by cases h) hD hDc)
      have hlast : (ordF E id []).getLastD 0 = id := by
        obtain ⟨pre, h⟩ := ordF_last HWD.out.wf HID.out.1 HID.out.2
        rw [h]; simp
      rw [hlast] at h3
      have c10 : Y.cell? ⟨g10, 0, none⟩ = some (.int .i64 id) := by simp [World.cell?, h3]
      have hb2 : ((id : Int) == (id : Int)) = true := by simp
      have k8 := (HCL.out Y hj.1).2.2.1
      have c8 : Y.cell? ⟨W.heap.size, 0, none⟩ = some (.bool false) := by simp [World.cell?, k8]
      have f8 : Y.frozen? ⟨W.heap.size, 0, none⟩ = false := by simp [World.frozen?, k8]
      obtain ⟨Ye, hYe⟩ : ∃ y, Y.setCell ⟨W.heap.size, 0, none⟩ (.bool true) = y := ⟨_, rfl⟩
      have HC8 : Hid (Ye.heap[W.heap.size]? = some (.cells #[.bool true] 4 (0, 0))) := Lib.hid (by rw [← hYe]; exact heap_set0 _ k8)
      have HBF : Hid (Below W.heap.size W Ye) := Lib.hid (by rw [← hYe]; exact hj.2.2.1.setCell (p := ⟨W.heap.size, 0, none⟩) (Nat.le_refl _) _)
      have HMF := Lib.hid (HMF0.out.keep (by rw [← hYe]; exact KeepsOthers.setCell Y ⟨W.heap.size, 0, none⟩ (.bool true) : KeepsOthers Y Ye))
      have HZF : Hid (w11.heap.size ≤ Ye.heap.size) := Lib.hid (by rw [← hYe]; have := (Array.getElem?_eq_some_iff.1 hDc).1; simp; omega)
      clear k8 h3 hj hDc hlast hD HEN HST
      gi_wp2_with fail
      refine HMF.out.leaves HZF.out fun w' hb' => ?_
      have hc7 := (hb'.block W.heap.size HGT.out.2.2).trans HC8.out
      have hc8 : w'.cell? ⟨W.heap.size, 0, none⟩ = some (.bool true) := by simp [World.cell?, hc7]
      refine ⟨.bool true, ?_, rfl, HBF.out.trans (hb'.mono HWZ.out)⟩
      simp [results, Try.f5, go_sem, hc8]
end M
end Go.Proofs.Ytpjcfepngjpfbaa
