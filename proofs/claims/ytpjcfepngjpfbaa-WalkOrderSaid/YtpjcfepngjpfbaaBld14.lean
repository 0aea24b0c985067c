/- law14's Build: the walk (printed by walk/mkbld14.py). -/
import Derived.Test.YtpjcfepngjpfbaaMds
import Derived.Test.YtpjcfepngjpfbaaCom
set_option linter.unusedVariables false
set_option linter.unusedSimpArgs false
namespace Go.Proofs.Ytpjcfepngjpfbaa
open Go.RowKit Go.Lib
namespace M
attribute [local go_sem] Oper.semAt_some
set_option maxRecDepth 100000 in
set_option maxHeartbeats 16000000 in
theorem build14_any {W : World} {v : Value} {L : List Stp} (hL : RowStp W v L) : Calls Try.prog 12 #[v] W (B14 W.heap.size W) := by
  have HF : ∀ f, Fence.wide.fn f := fun _ => trivial
  have HL := Lib.hid hL
  obtain ⟨a0, cap0, rfl, hc1, hc2, -, -⟩ := hL
  unfold maxLen at hc2
  obtain ⟨W0, hW0⟩ : ∃ w, W.alloc (.cells #[.pointer none, .slice none 0 0, .slice none 0 0, .slice none 0 0] 28) = w := ⟨_, rfl⟩
  have z0 : MzC W0 W.heap.size := by rw [← hW0]; exact heap_new' _ _
  have b0 : Below W.heap.size W W0 := by rw [← hW0]; exact (Below.refl _ _).alloc (Nat.le_refl _) _
  have s0 : W0.heap.size = W.heap.size + 1 := by rw [← hW0]; simp
  have HNW := Lib.hid (snew_any W0 1048576 (by omega))
  rw [show ((1048576 : Nat) : Int) = 1048576 from rfl] at HNW
  obtain ⟨n0, hn0⟩ : ∃ n, W.heap.size = n := ⟨_, rfl⟩
  have HN0 := Lib.hid hn0
  rw [hn0] at z0 b0 s0 ⊢
  have Z0 := Lib.hid z0; have B0 := Lib.hid b0; have S0 := Lib.hid s0
  clear z0 b0 s0
  go_enter Try.func12, Try.ntmps12
  go_wp2_with fail
  refine HNW.out.mono ?_
  rintro e w1 ⟨B, rfl, s1, b1⟩
  obtain ⟨wz, w2, hwz, hw2, k2, bb, kz⟩ := newMc w1 B
  obtain ⟨⟨p0, p1, p2, p3⟩, f0, f1, f2, f3⟩ := kz.cells
  obtain ⟨gm, hgm⟩ : ∃ g, w1.heap.size = g := ⟨_, rfl⟩
  rw [hgm] at hw2 k2 p0 p1 p2 p3 f0 f1 f2 f3
  obtain ⟨c0, -, -, -⟩ := k2.cells
  have HGM : Hid (n0 ≤ gm) := Lib.hid (by rw [← hgm]; have := b1.size; have := S0.out; omega)
  have HNG : Hid (n0 < gm) := Lib.hid (by rw [← hgm]; have := b1.size; have := S0.out; omega)
  have HST1 : Hid (StAt n0 w2 B 1048576 []) := Lib.hid ((s1.mono' (by have := S0.out; omega)).below bb)
  have HMD1 : Hid (MdAt n0 w2 gm B [] [] []) := Lib.hid ⟨_, _, _, k2, SlA.nil _ _ _ _ _, SlA.nil _ _ _ _ _, SlA.nil _ _ _ _ _, MdOk.nil _ _ _⟩
  have HZ1 : Hid (MzC w2 n0) := Lib.hid (below_block bb (below_block b1 Z0.out))
  have HB1 : Hid (Below n0 W w2) := Lib.hid ((B0.out.trans (b1.mono (by have := S0.out; omega))).trans (bb.mono (by rw [hgm]; exact HGM.out)))
  have HN1 : Hid (n0 ≤ w2.heap.size) := Lib.hid (Nat.le_trans (by rw [hgm]; exact HGM.out) bb.size)
  clear s1 b1 k2 bb kz HNW
  go_wp2_with fail
  clear hw2 hwz hW0 hgm c0 hn0 p0 p1 p2 p3 f0 f1 f2 f3
  go_loopw [5] (fun iv wr => ∃ (i : Nat) (E : List En) (ids : List Nat) (T : List Slc), iv = .int .i64 i ∧ i ≤ L.length ∧ i ≤ 90 ∧ StAt n0 wr B 1048576 E ∧ WfD E ∧ E.length ≤ 260 * i ∧ MdAt n0 wr gm B E ids T ∧ ids.length ≤ i ∧ MzC wr n0 ∧ Below n0 W wr ∧ n0 ≤ wr.heap.size) (fun iv _ => 90 - (intOf iv).toNat)
  case atStart => exact ⟨0, [], [], [], rfl, Nat.zero_le _, Nat.zero_le _, HST1.out, .nil, by simp, HMD1.out, by simp, HZ1.out, HB1.out, HN1.out⟩
  case round =>
    clear HST1 HMD1 HZ1 HB1 HN1
    obtain ⟨i, E, ids, T, rfl, hi, hi90, hst, hwd, hel, hMd, hil, hmz, hbw, hnr⟩ := hrel
    by_cases hlt : i < L.length
    · have hlt2 : (i : Int) < (L.length : Int) := by omega
      have hlt3 : (0 : Int) ≤ (i : Int) := by omega
      by_cases h9 : i < 90
      · have h92 : (i : Int) < 90 := by omega
        have HI : Hid (i < L.length ∧ i < 90) := Lib.hid ⟨hlt, h9⟩
        have HIL := Lib.hid hil; have HE0 := Lib.hid hel
        obtain ⟨iv, lv, tv, hm, hiv, hlv, htv, hok⟩ := hMd
        obtain ⟨ia, ic, rfl⟩ := hiv.len
        obtain ⟨la, lc, rfl⟩ := hlv.len
        obtain ⟨ta, tc, rfl⟩ := htv.len
        have hTl := hok.len
        rw [lnF_len] at hm hlv
        rw [hTl] at hm htv
        obtain ⟨n, hn⟩ : ∃ n, ids.length = n := ⟨_, rfl⟩
        have HN := Lib.hid hn
        rw [hn] at hm hiv hlv htv hTl
        have HTL := Lib.hid hTl
        obtain ⟨ls, hls⟩ : ∃ l, lnF E ids = l := ⟨_, rfl⟩
        have HLS := Lib.hid hls
        have HLL : Hid (ls.length = n) := Lib.hid (by rw [← hls, lnF_len, hn])
        rw [hls] at hlv
        obtain ⟨a', cap', ha', -, -, hsm, hSi⟩ := HL.out.under hbw (Nat.le_of_eq HN0.out)
        simp only [Value.slice.injEq] at ha'
        obtain ⟨rfl, -, rfl⟩ := ha'
        obtain ⟨b, rfl, -, q0⟩ := hSi i hlt
        have hsl := hsm _ (List.getElem_mem hlt)
        generalize L[i] = s at *
        have hbr := Below.refl wr.heap.size wr
        obtain ⟨wd, hwdd⟩ : ∃ w, wr.drew = w := ⟨_, rfl⟩
        obtain ⟨gs, hgs⟩ : ∃ g, wd.heap.size = g := ⟨_, rfl⟩
        have SD : Below wr.heap.size wr wd := by rw [← hwdd]; exact hbr.drew
        have HWZ : Hid (wr.heap.size = gs) := Lib.hid (by rw [← hgs, ← hwdd]; rfl)
        obtain ⟨wz, hwz2⟩ : ∃ w, wd.alloc (.cells #[.bool false, .int .u8 0, .int .u8 0, .int .u8 0] 95) = w := ⟨_, rfl⟩
        have kz : SpB wz gs ⟨false, 0, 0, 0⟩ := by rw [← hwz2, ← hgs]; exact heap_new' _ _
        have SZ : Below wr.heap.size wr wz := by rw [← hwz2]; exact SD.alloc (by rw [HWZ.out, hgs]; exact Nat.le_refl _) _
        obtain ⟨z0, z1, z2, z3⟩ : wz.cell? ⟨gs, 0, none⟩ = some (.bool false) ∧ wz.cell? ⟨gs, 1, none⟩ = some (.int .u8 0) ∧ wz.cell? ⟨gs, 2, none⟩ = some (.int .u8 0) ∧ wz.cell? ⟨gs, 3, none⟩ = some (.int .u8 0) := kz.cells
        have f0 := kz.free 0; have f1 := kz.free 1; have f2 := kz.free 2; have f3 := kz.free 3
        obtain ⟨w2, hw2⟩ : ∃ w, (((wz.setCell ⟨gs, 0, none⟩ (.bool s.join)).setCell ⟨gs, 1, none⟩ (.int .u8 s.letter)).setCell ⟨gs, 2, none⟩ (.int .u8 s.a)).setCell ⟨gs, 3, none⟩ (.int .u8 s.b) = w := ⟨_, rfl⟩
        have k2 : SpB w2 gs s := by rw [← hw2]; exact kz.set s
        have S2 : Below wr.heap.size wr w2 := by
          rw [← hw2]
          exact (((SZ.setCell (p := ⟨gs, 0, none⟩) (by rw [HWZ.out]; exact Nat.le_refl _) _).setCell (p := ⟨gs, 1, none⟩) (by rw [HWZ.out]; exact Nat.le_refl _) _).setCell (p := ⟨gs, 2, none⟩) (by rw [HWZ.out]; exact Nat.le_refl _) _).setCell (p := ⟨gs, 3, none⟩) (by rw [HWZ.out]; exact Nat.le_refl _) _
        have HSQ0 := Lib.hid q0
        have m0 : ∀ w, Below wr.heap.size wr w → w.cell? (b.add (i * 4)) = some (.bool s.join) := fun w hw => cell_on3 HSQ0.out.1 hw
        have m1 : ∀ w, Below wr.heap.size wr w → w.cell? ⟨(b.add (i * 4)).block, (b.add (i * 4)).off + 1, none⟩ = some (.int .u8 s.letter) := fun w hw => cell_on3 HSQ0.out.2.1 hw
        have m2 : ∀ w, Below wr.heap.size wr w → w.cell? ⟨(b.add (i * 4)).block, (b.add (i * 4)).off + 2, none⟩ = some (.int .u8 s.a) := fun w hw => cell_on3 HSQ0.out.2.2.1 hw
        have m3 : ∀ w, Below wr.heap.size wr w → w.cell? ⟨(b.add (i * 4)).block, (b.add (i * 4)).off + 3, none⟩ = some (.int .u8 s.b) := fun w hw => cell_on3 HSQ0.out.2.2.2 hw
        have HM := Lib.hid hm
        have m4 : ∀ w, Below wr.heap.size wr w → w.cell? ⟨gm, 1, none⟩ = some (.slice ia n ic) := fun w hw => (McC.cells (below_block hw HM.out)).2.1
        have KS2 := Lib.hid k2
        have KM2 := Lib.hid (show McC w2 gm B (.slice ia n ic) (.slice la n lc) (.slice ta n tc) from below_block S2 hm)
        have KZ2 := Lib.hid (show MzC w2 n0 from below_block S2 hmz)
        have HIV := Lib.hid (hiv.below S2); have HLV := Lib.hid (hlv.below S2); have HTV := Lib.hid (htv.below S2)
        have HOK := Lib.hid (hok.keep (KeepT.below S2))
        have HST := Lib.hid (hst.below S2); have HWD := Lib.hid hwd
        have HB2 : Hid (Below n0 W w2) := Lib.hid (hbw.trans (S2.mono hnr))
        have HN2 : Hid (n0 ≤ w2.heap.size) := Lib.hid (Nat.le_trans hnr S2.size)
        have HGS : Hid (n0 ≠ gm ∧ gs ≠ gm) := Lib.hid ⟨by have := HNG.out; omega, by rw [← HWZ.out]; have := (Array.getElem?_eq_some_iff.1 hm).1; omega⟩
        have HAPP : Hid ((ids.length + [0].length) * 8 ≤ 140737488355328 ∧ (ls.length + [0].length) * 8 ≤ 140737488355328 ∧ ∀ u1 : Slc, (T.length + [u1].length) * 24 ≤ 140737488355328) := Lib.hid ⟨by simp; omega, by rw [HLL.out]; simp; omega, fun u1 => by rw [HTL.out]; simp; omega⟩
        obtain ⟨bz, hbz⟩ : ∃ z, decide (n = 0) = z := ⟨_, rfl⟩
        have hnb : ((n : Int) == 0) = bz := by
          rw [← hbz]
          by_cases h : n = 0
          · simp [h]
          · have : ((n : Int) == 0) = false := by simp; omega
            rw [this]; simp [h]
        obtain ⟨x0, x1, x2, x3⟩ := KS2.out.cells
        obtain ⟨c0', -, -, -⟩ := KM2.out.cells
        have hcs : s.join = false ∨ (s.join = true ∧ bz = true) ∨ (s.join = true ∧ bz = false) := by
          cases s.join <;> cases bz <;> simp
        have HBZ := Lib.hid hbz
        have HSL := Lib.hid hsl
        have hiw : IntKind.i64.wrap ((i : Int) + 1) = ((i + 1 : Nat) : Int) := by rw [IntKind.wrap_i64]; omega
        clear hm hiv hlv htv hok hst hwd hbw hnr hmz hel hil hi hi90 hTl hls hn k2 kz hsm hSi q0 hsl hlt h9 hbr hbz
        go_wp2_with fail
        refine wp_region_anyH (Below wr.heap.size wr) (by kernel_rfl) ?_
        rw [hwdd]
        clear hwdd
        refine AnyH.take (i := 0) (d := some 32) (v := ?_) (by kernel_rfl) rfl rfl HF (fun _ _ _ h => h) (.inl ⟨by rfl, ?_⟩) (by first | assumption | rfl) ?_
        rotate_left
        · intro w hS; try subst hS
          go_simp; try with_reducible rfl
        try simp only [Act.put, List.setIfInBounds_toArray, List.set_cons_zero, List.set_cons_succ]
        refine AnyH.take (i := 1) (d := some 33) (v := ?_) (by kernel_rfl) rfl rfl HF (fun _ _ _ h => h) (.inl ⟨by rfl, ?_⟩) (by first | assumption | rfl) ?_
        rotate_left
        · intro w hS; try subst hS
          go_simp; try with_reducible rfl
        try simp only [Act.put, List.setIfInBounds_toArray, List.set_cons_zero, List.set_cons_succ]
        refine AnyH.take (i := 2) (d := some 34) (v := ?_) (by kernel_rfl) rfl rfl HF (fun _ _ _ h => h) (.inl ⟨by rfl, ?_⟩) (by first | assumption | rfl) ?_
        rotate_left
        · intro w hS; try subst hS
          go_simp; try with_reducible rfl
        try simp only [Act.put, List.setIfInBounds_toArray, List.set_cons_zero, List.set_cons_succ]
        refine AnyH.take (i := 3) (d := some 35) (v := ?_) (by kernel_rfl) rfl rfl HF (fun _ _ _ h => h) (.inl ⟨by rfl, ?_⟩) (by first | assumption | rfl) ?_
        rotate_left
        · intro w hS; try subst hS
          go_simp; try with_reducible rfl
        try simp only [Act.put, List.setIfInBounds_toArray, List.set_cons_zero, List.set_cons_succ]
        refine AnyH.take (i := 4) (d := some 36) (v := ?_) (by kernel_rfl) rfl rfl HF (fun _ _ _ h => h) (.inl ⟨by rfl, ?_⟩) (by first | assumption | rfl) ?_
        rotate_left
        · intro w hS; try subst hS
          go_simp; try with_reducible rfl
        try simp only [Act.put, List.setIfInBounds_toArray, List.set_cons_zero, List.set_cons_succ]
        refine AnyH.take (i := 5) (d := some 37) (v := ?_) (by kernel_rfl) rfl rfl HF (fun _ _ _ h => h) (.inl ⟨by rfl, ?_⟩) (by first | assumption | rfl) ?_
        rotate_left
        · intro w hS; try subst hS
          go_simp; try with_reducible rfl
        try simp only [Act.put, List.setIfInBounds_toArray, List.set_cons_zero, List.set_cons_succ]
        refine AnyH.take (i := 6) (d := some 38) (v := ?_) (by kernel_rfl) rfl rfl HF (fun _ _ _ h => h) (.inl ⟨by rfl, ?_⟩) (by first | assumption | rfl) ?_
        rotate_left
        · intro w hS; try subst hS
          go_simp; try with_reducible rfl
        try simp only [Act.put, List.setIfInBounds_toArray, List.set_cons_zero, List.set_cons_succ]
        refine AnyH.one (i := 7) (by kernel_rfl) (by kernel_rfl) rfl HF (by rfl) (fun K hK => ?_)
        go_simp
        refine hK _ _ SZ ?_
        clear hK K
        try simp only [Act.put, List.setIfInBounds_toArray, List.set_cons_zero, List.set_cons_succ]
        refine AnyH.one (i := 8) (by kernel_rfl) (by kernel_rfl) rfl HF (by rfl) (fun K hK => ?_)
        go_simp
        refine hK _ _ S2 ?_
        clear hK K
        try simp only [Act.put, List.setIfInBounds_toArray, List.set_cons_zero, List.set_cons_succ]
        refine AnyH.take (i := 9) (d := some 7) (v := ?_) (by kernel_rfl) rfl rfl HF (fun _ _ _ h => h) (.inl ⟨by rfl, ?_⟩) (by first | assumption | rfl) ?_
        rotate_left
        · intro w hS; try subst hS
          go_simp; try with_reducible rfl
        try simp only [Act.put, List.setIfInBounds_toArray, List.set_cons_zero, List.set_cons_succ]
        refine AnyH.done (by kernel_rfl) ?_
        clear m0 m1 m2 m3 m4 hw2 hwz2 hgs z0 z1 z2 z3 f0 f1 f2 f3 SD SZ S2 hlt2 hlt3 h92
        rcases hcs with hj | ⟨hj, rfl⟩ | ⟨hj, rfl⟩
        rotate_left 2
        · rw [hj] at x0
          have hn00 : ¬ n = 0 := of_decide_eq_false HBZ.out
          have hn01 : ¬ (n : Int) = 0 := by omega
          have hca : IntKind.i64.wrap (s.a : Int) = (s.a : Int) := by rw [IntKind.wrap_i64]; have := HSL.out; omega
          have hcb : IntKind.i64.wrap (s.b : Int) = (s.b : Int) := by rw [IntKind.wrap_i64]; have := HSL.out; omega
          have hra : (s.a : Int).tmod (n : Int) = ((s.a % n : Nat) : Int) := rfl
          have hrb : (s.b : Int).tmod (n : Int) = ((s.b % n : Nat) : Int) := rfl
          obtain ⟨qa, hqa⟩ : ∃ x, s.a % n = x := ⟨_, rfl⟩
          obtain ⟨qb, hqb⟩ : ∃ x, s.b % n = x := ⟨_, rfl⟩
          have hqa1 : qa < n := by rw [← hqa]; exact Nat.mod_lt _ (by omega)
          have hqb1 : qb < n := by rw [← hqb]; exact Nat.mod_lt _ (by omega)
          rw [hqa] at hra
          rw [hqb] at hrb
          have hwa : IntKind.i64.wrap (qa : Int) = (qa : Int) := by rw [IntKind.wrap_i64]; have := HN.out; have := HIL.out; have := HI.out; omega
          have hwb : IntKind.i64.wrap (qb : Int) = (qb : Int) := by rw [IntKind.wrap_i64]; have := HN.out; have := HIL.out; have := HI.out; omega
          have hai : qa < ids.length := by have := HN.out; omega
          have hbi : qb < ids.length := by have := HN.out; omega
          have hat : qa < T.length := by have := HTL.out; omega
          have hbt : qb < T.length := by have := HTL.out; omega
          have hal : qa < ls.length := by have := HLL.out; omega
          have hbl : qb < ls.length := by have := HLL.out; omega
          have ha2 : (qa : Int) < (n : Int) := by omega
          have hb2 : (qb : Int) < (n : Int) := by omega
          have ha0 : (0 : Int) ≤ (qa : Int) := by omega
          have hb0 : (0 : Int) ≤ (qb : Int) := by omega
          obtain ⟨gi, ic', hiv, -, -, hci⟩ := SlA.one encI_len HIV.out hai
          obtain ⟨gl, lc', hlv, -, -, hcl⟩ := SlA.one encI_len HLV.out hal
          obtain ⟨gt, tc', htv, -, -, hct⟩ := SlA.one encS_len HTV.out hat
          simp only [Value.slice.injEq] at hiv hlv htv
          obtain ⟨rfl, -, rfl⟩ := hiv
          obtain ⟨rfl, -, rfl⟩ := hlv
          obtain ⟨rfl, -, rfl⟩ := htv
          have hci2 := fun (w : World) (h : Kt w2 w) => hci w (SlA.keep HIV.out (h _ (by decide) (by decide)))
          have hcl2 := fun (w : World) (h : Kt w2 w) => hcl w (SlA.keep HLV.out (h _ (by decide) (by decide)))
          have hct2 := fun (w : World) (h : Kt w2 w) => hct w (SlA.keep HTV.out (h _ (by decide) (by decide)))
          have hla : ls[qa] = (M.txt E ids[qa]).length := by
            have h := HLS.out
            subst h
            exact lnF_get _
          have hlb : ls[qb] = (M.txt E ids[qb]).length := by
            have h := HLS.out
            subst h
            exact lnF_get _
          obtain ⟨pa, ba⟩ := HOK.out.bal _ (List.getElem_mem hai)
          obtain ⟨pb, bb⟩ := HOK.out.bal _ (List.getElem_mem hbi)
          have hta := HOK.out.txt qa hai hat
          have htb := HOK.out.txt qb hbi hbt
          have hlen1 := (ba.len HWD.out).1
          have hlen2 := (bb.len HWD.out).1
          have HCI : Hid (∀ w, Kt w2 w → w.cell? ⟨gi, qa, none⟩ = some (.int .i64 ids[qa]) ∧ w.cell? ⟨gi, qb, none⟩ = some (.int .i64 ids[qb]) ∧ w.cell? ⟨gl, qa, none⟩ = some (.int .i64 ls[qa]) ∧ w.cell? ⟨gl, qb, none⟩ = some (.int .i64 ls[qb]) ∧ w.cell? ⟨gt, qa, none⟩ = some (slcV T[qa]) ∧ w.cell? ⟨gt, qb, none⟩ = some (slcV T[qb])) := Lib.hid (fun w h => ⟨hci2 w h qa hai, hci2 w h qb hbi, hcl2 w h qa hal, hcl2 w h qb hbl, hct2 w h qa hat, hct2 w h qb hbt⟩)
          clear hci hcl hct hci2 hcl2 hct2
          generalize ls[qa] = xa at *
          generalize ls[qb] = xb at *
          generalize ids[qa] = ia at *
          generalize ids[qb] = ib at *
          generalize T[qa] = ua at *
          generalize T[qb] = ub at *
          obtain ⟨ta, hta0⟩ : ∃ t, M.txt E ia = t := ⟨_, rfl⟩
          obtain ⟨tb, htb0⟩ : ∃ t, M.txt E ib = t := ⟨_, rfl⟩
          rw [hta0] at hla ba hta hlen1
          rw [htb0] at hlb bb htb hlen2
          have HTA := Lib.hid hta; have HTB := Lib.hid htb; have HBA := Lib.hid (And.intro pa ba); have HBB := Lib.hid (And.intro pb bb)
          have HLA := Lib.hid hla; have HLB := Lib.hid hlb
          have hxw : IntKind.i64.wrap ((xa : Int) + (xb : Int)) = ((xa + xb : Nat) : Int) := by rw [IntKind.wrap_i64]; omega
          obtain ⟨ln, hln⟩ : ∃ x, xa + xb = x := ⟨_, rfl⟩
          rw [hln] at hxw
          have HLN0 := Lib.hid hln
          have HAI := Lib.hid (And.intro hai hat)
          clear hta htb pa pb ba bb hla hlb hta0 htb0 hlen1 hlen2 hqa hqb hqa1 hqb1 hai hbi hat hbt hal hbl hln
          go_wp2_with fail
          clear x0 x1 x2 x3 c0'
          refine wp_region_anyH (Below w2.heap.size w2) (by kernel_rfl) ?_
          obtain ⟨v1, hv1⟩ : ∃ w, w2.drew = w := ⟨_, rfl⟩
          have V1 : Below w2.heap.size w2 v1 := by rw [← hv1]; exact (Below.refl _ _).drew
          rw [hv1]
          clear hv1
          have q2 : ∀ w, Below w2.heap.size w2 w → w.cell? ⟨gs, 2, none⟩ = some (.int .u8 s.a) := fun w hw => (SpB.cells (below_block hw KS2.out)).2.2.1
          have q3 : ∀ w, Below w2.heap.size w2 w → w.cell? ⟨gs, 3, none⟩ = some (.int .u8 s.b) := fun w hw => (SpB.cells (below_block hw KS2.out)).2.2.2
          refine AnyH.take (i := 0) (d := some 76) (v := ?_) (by kernel_rfl) rfl rfl HF (fun _ _ _ h => h) (.inl ⟨by rfl, ?_⟩) (by first | assumption | rfl) ?_
          rotate_left
          · intro w hS; try subst hS
            go_simp; try with_reducible rfl
          try simp only [Act.put, List.setIfInBounds_toArray, List.set_cons_zero, List.set_cons_succ]
          refine AnyH.take (i := 1) (d := some 77) (v := ?_) (by kernel_rfl) rfl rfl HF (fun _ _ _ h => h) (.inl ⟨by rfl, ?_⟩) (by first | assumption | rfl) ?_
          rotate_left
          · intro w hS; try subst hS
            go_simp; try with_reducible rfl
          try simp only [Act.put, List.setIfInBounds_toArray, List.set_cons_zero, List.set_cons_succ]
          refine AnyH.take (i := 2) (d := some 78) (v := ?_) (by kernel_rfl) rfl rfl HF (fun _ _ _ h => h) (.inl ⟨by rfl, ?_⟩) (by first | assumption | rfl) ?_
          rotate_left
          · intro w hS; try subst hS
            go_simp; try with_reducible rfl
          try simp only [Act.put, List.setIfInBounds_toArray, List.set_cons_zero, List.set_cons_succ]
          refine AnyH.take (i := 3) (d := some 79) (v := ?_) (by kernel_rfl) rfl rfl HF (fun _ _ _ h => h) (.inl ⟨by rfl, ?_⟩) (by first | assumption | rfl) ?_
          rotate_left
          · intro w hS; try subst hS
            go_simp; try with_reducible rfl
          try simp only [Act.put, List.setIfInBounds_toArray, List.set_cons_zero, List.set_cons_succ]
          refine AnyH.take (i := 4) (d := some 80) (v := ?_) (by kernel_rfl) rfl rfl HF (fun _ _ _ h => h) (.inl ⟨by rfl, ?_⟩) (by first | assumption | rfl) ?_
          rotate_left
          · intro w hS; try subst hS
            go_simp; try with_reducible rfl
          try simp only [Act.put, List.setIfInBounds_toArray, List.set_cons_zero, List.set_cons_succ]
          refine AnyH.take (i := 5) (d := some 81) (v := ?_) (by kernel_rfl) rfl rfl HF (fun _ _ _ h => h) (.inl ⟨by rfl, ?_⟩) (by first | assumption | rfl) ?_
          rotate_left
          · intro w hS; try subst hS
            go_simp; try with_reducible rfl
          try simp only [Act.put, List.setIfInBounds_toArray, List.set_cons_zero, List.set_cons_succ]
          refine AnyH.take (i := 6) (d := some 82) (v := ?_) (by kernel_rfl) rfl rfl HF (fun _ _ _ h => h) (.inl ⟨by rfl, ?_⟩) (by first | assumption | rfl) ?_
          rotate_left
          · intro w hS; try subst hS
            go_simp; try with_reducible rfl
          try simp only [Act.put, List.setIfInBounds_toArray, List.set_cons_zero, List.set_cons_succ]
          refine AnyH.take (i := 7) (d := some 83) (v := ?_) (by kernel_rfl) rfl rfl HF (fun _ _ _ h => h) (.inl ⟨by rfl, ?_⟩) (by first | assumption | rfl) ?_
          rotate_left
          · intro w hS; try subst hS
            go_simp; try with_reducible rfl
          try simp only [Act.put, List.setIfInBounds_toArray, List.set_cons_zero, List.set_cons_succ]
          refine AnyH.take (i := 8) (d := some 84) (v := ?_) (by kernel_rfl) rfl rfl HF (fun _ _ _ h => h) (.inl ⟨by rfl, ?_⟩) (by first | assumption | rfl) ?_
          rotate_left
          · intro w hS; try subst hS
            go_simp; try with_reducible rfl
          try simp only [Act.put, List.setIfInBounds_toArray, List.set_cons_zero, List.set_cons_succ]
          refine AnyH.take (i := 9) (d := some 85) (v := ?_) (by kernel_rfl) rfl rfl HF (fun _ _ _ h => h) (.inl ⟨by rfl, ?_⟩) (by first | assumption | rfl) ?_
          rotate_left
          · intro w hS; try subst hS
            go_simp; try with_reducible rfl
          try simp only [Act.put, List.setIfInBounds_toArray, List.set_cons_zero, List.set_cons_succ]
          refine AnyH.take (i := 10) (d := some 10) (v := ?_) (by kernel_rfl) rfl rfl HF (fun _ _ _ h => h) (.inl ⟨by rfl, ?_⟩) (by first | assumption | rfl) ?_
          rotate_left
          · intro w hS; try subst hS
            go_simp; try with_reducible rfl
          try simp only [Act.put, List.setIfInBounds_toArray, List.set_cons_zero, List.set_cons_succ]
          refine AnyH.take (i := 11) (d := some 11) (v := ?_) (by kernel_rfl) rfl rfl HF (fun _ _ _ h => h) (.inl ⟨by rfl, ?_⟩) (by first | assumption | rfl) ?_
          rotate_left
          · intro w hS; try subst hS
            go_simp; try with_reducible rfl
          try simp only [Act.put, List.setIfInBounds_toArray, List.set_cons_zero, List.set_cons_succ]
          refine AnyH.done (by kernel_rfl) ?_
          clear q2 q3 hca hcb hra hrb hwa hwb
          go_wp2_with fail
          refine wp_region_anyH (Below w2.heap.size w2) (by kernel_rfl) ?_
          obtain ⟨v2, hv2⟩ : ∃ w, v1.drew = w := ⟨_, rfl⟩
          have V2 : Below w2.heap.size w2 v2 := by rw [← hv2]; exact V1.drew
          rw [hv2]
          clear hv2
          have m2 : ∀ w, Below w2.heap.size w2 w → w.cell? ⟨gm, 2, none⟩ = some (.slice (some ⟨gl, 0, none⟩) n lc) := fun w hw => (McC.cells (below_block hw KM2.out)).2.2.1
          have e1 : ∀ w, Below w2.heap.size w2 w → w.cell? ⟨gl, qa, none⟩ = some (.int .i64 xa) := fun w hw => (HCI.out w (Kt.of hw)).2.2.1
          have e2 : ∀ w, Below w2.heap.size w2 w → w.cell? ⟨gl, qb, none⟩ = some (.int .i64 xb) := fun w hw => (HCI.out w (Kt.of hw)).2.2.2.1
          refine AnyH.take (i := 0) (d := some 86) (v := ?_) (by kernel_rfl) rfl rfl HF (fun _ _ _ h => h) (.inl ⟨by rfl, ?_⟩) (by first | assumption | rfl) ?_
          rotate_left
          · intro w hS; try subst hS
            go_simp; try with_reducible rfl
          try simp only [Act.put, List.setIfInBounds_toArray, List.set_cons_zero, List.set_cons_succ]
          refine AnyH.take (i := 1) (d := some 87) (v := ?_) (by kernel_rfl) rfl rfl HF (fun _ _ _ h => h) (.inl ⟨by rfl, ?_⟩) (by first | assumption | rfl) ?_
          rotate_left
          · intro w hS; try subst hS
            go_simp; try with_reducible rfl
          try simp only [Act.put, List.setIfInBounds_toArray, List.set_cons_zero, List.set_cons_succ]
          refine AnyH.take (i := 2) (d := some 88) (v := ?_) (by kernel_rfl) rfl rfl HF (fun _ _ _ h => h) (.inl ⟨by rfl, ?_⟩) (by first | assumption | rfl) ?_
          rotate_left
          · intro w hS; try subst hS
            go_simp; try with_reducible rfl
          try simp only [Act.put, List.setIfInBounds_toArray, List.set_cons_zero, List.set_cons_succ]
          refine AnyH.take (i := 3) (d := some 89) (v := ?_) (by kernel_rfl) rfl rfl HF (fun _ _ _ h => h) (.inl ⟨by rfl, ?_⟩) (by first | assumption | rfl) ?_
          rotate_left
          · intro w hS; try subst hS
            go_simp; try with_reducible rfl
          try simp only [Act.put, List.setIfInBounds_toArray, List.set_cons_zero, List.set_cons_succ]
          refine AnyH.take (i := 4) (d := some 90) (v := ?_) (by kernel_rfl) rfl rfl HF (fun _ _ _ h => h) (.inl ⟨by rfl, ?_⟩) (by first | assumption | rfl) ?_
          rotate_left
          · intro w hS; try subst hS
            go_simp; try with_reducible rfl
          try simp only [Act.put, List.setIfInBounds_toArray, List.set_cons_zero, List.set_cons_succ]
          refine AnyH.take (i := 5) (d := some 91) (v := ?_) (by kernel_rfl) rfl rfl HF (fun _ _ _ h => h) (.inl ⟨by rfl, ?_⟩) (by first | assumption | rfl) ?_
          rotate_left
          · intro w hS; try subst hS
            go_simp; try with_reducible rfl
          try simp only [Act.put, List.setIfInBounds_toArray, List.set_cons_zero, List.set_cons_succ]
          refine AnyH.take (i := 6) (d := some 92) (v := ?_) (by kernel_rfl) rfl rfl HF (fun _ _ _ h => h) (.inl ⟨by rfl, ?_⟩) (by first | assumption | rfl) ?_
          rotate_left
          · intro w hS; try subst hS
            go_simp; try with_reducible rfl
          try simp only [Act.put, List.setIfInBounds_toArray, List.set_cons_zero, List.set_cons_succ]
          refine AnyH.take (i := 7) (d := some 93) (v := ?_) (by kernel_rfl) rfl rfl HF (fun _ _ _ h => h) (.inl ⟨by rfl, ?_⟩) (by first | assumption | rfl) ?_
          rotate_left
          · intro w hS; try subst hS
            go_simp; try with_reducible rfl
          try simp only [Act.put, List.setIfInBounds_toArray, List.set_cons_zero, List.set_cons_succ]
          refine AnyH.take (i := 8) (d := some 94) (v := ?_) (by kernel_rfl) rfl rfl HF (fun _ _ _ h => h) (.inl ⟨by rfl, ?_⟩) (by first | assumption | rfl) ?_
          rotate_left
          · intro w hS; try subst hS
            go_simp; try with_reducible rfl
          try simp only [Act.put, List.setIfInBounds_toArray, List.set_cons_zero, List.set_cons_succ]
          refine AnyH.take (i := 9) (d := some 95) (v := ?_) (by kernel_rfl) rfl rfl HF (fun _ _ _ h => h) (.inl ⟨by rfl, ?_⟩) (by first | assumption | rfl) ?_
          rotate_left
          · intro w hS; try subst hS
            go_simp; try with_reducible rfl
          try simp only [Act.put, List.setIfInBounds_toArray, List.set_cons_zero, List.set_cons_succ]
          refine AnyH.take (i := 10) (d := some 96) (v := ?_) (by kernel_rfl) rfl rfl HF (fun _ _ _ h => h) (.inl ⟨by rfl, ?_⟩) (by first | assumption | rfl) ?_
          rotate_left
          · intro w hS; try subst hS
            go_simp; try with_reducible rfl
          try simp only [Act.put, List.setIfInBounds_toArray, List.set_cons_zero, List.set_cons_succ]
          refine AnyH.take (i := 11) (d := some 12) (v := ?_) (by kernel_rfl) rfl rfl HF (fun _ _ _ h => h) (.inl ⟨by rfl, ?_⟩) (by first | assumption | rfl) ?_
          rotate_left
          · intro w hS; try subst hS
            go_simp; try with_reducible rfl
          try simp only [Act.put, List.setIfInBounds_toArray, List.set_cons_zero, List.set_cons_succ]
          refine AnyH.done (by kernel_rfl) ?_
          clear m2 e1 e2 hxw V1
          by_cases hbig : ln ≤ 1152921504606846976
          rotate_left
          · have hb3 : decide ((ln : Int) > 1152921504606846976) = true := decide_eq_true (by omega)
            have hb4 : decide (1152921504606846976 < ln) = true := decide_eq_true (by omega)
            clear hbig
            go_wp2_with fail
            go_roundw
            case rel => exact ⟨i + 1, E, ids, T, by go_num, by have := HI.out; omega, by have := HI.out; omega, HST.out.below V2, HWD.out, by have := HE0.out; omega, ⟨_, _, _, below_block V2 KM2.out, HIV.out.below V2, by rw [HLS.out]; exact HLV.out.below V2, HTV.out.below V2, HOK.out.keep (KeepT.below V2)⟩, by have := HIL.out; omega, below_block V2 KZ2.out, HB2.out.trans (V2.mono HN2.out), Nat.le_trans HN2.out V2.size⟩
            case measure => have := HI.out; simp [intOf]; omega
          · have hb3 : decide ((ln : Int) > 1152921504606846976) = false := decide_eq_false (by omega)
            have hb4 : decide (1152921504606846976 < ln) = false := decide_eq_false (by omega)
            have HBIG := Lib.hid hbig
            clear hbig
            have V2h := Lib.hid V2
            go_wp2_with fail
            clear hb3 hb4
            refine wp_region_anyH (fun w => Kt w2 w) (by kernel_rfl) ?_
            obtain ⟨v3, hv3⟩ : ∃ w, v2.drew = w := ⟨_, rfl⟩
            have V3 : Below w2.heap.size w2 v3 := by rw [← hv3]; exact V2.drew
            have V3k : Kt w2 v3 := Kt.of V3
            rw [hv3]
            clear hv3
            have m0 : ∀ w, Kt w2 w → w.cell? ⟨gm, 0, none⟩ = some (.pointer (some ⟨B, 0, none⟩)) := fun w hw => (McC.cells (hw _ (by decide) (by decide) _ _ _ KM2.out)).1
            have m1 : ∀ w, Kt w2 w → w.cell? ⟨gm, 1, none⟩ = some (.slice (some ⟨gi, 0, none⟩) n ic) := fun w hw => (McC.cells (hw _ (by decide) (by decide) _ _ _ KM2.out)).2.1
            have e1 : ∀ w, Kt w2 w → w.cell? ⟨gi, qa, none⟩ = some (.int .i64 ia) := fun w hw => (HCI.out w hw).1
            have e2 : ∀ w, Kt w2 w → w.cell? ⟨gi, qb, none⟩ = some (.int .i64 ib) := fun w hw => (HCI.out w hw).2.1
            have HJ := Lib.hid (avlJoin_any (HST.out.below V3) HWD.out HBA.out.2 HBB.out.2 (by have := HLA.out; have := HLB.out; have := HLN0.out; have := HBIG.out; omega) (by have := HE0.out; have := HI.out; omega) (by have := HE0.out; have := HI.out; omega))
            have HV3 := Lib.hid V3
            clear V3 V2
            refine AnyH.take (i := 0) (d := some 100) (v := ?_) (by kernel_rfl) rfl rfl HF (fun _ _ _ h => h) (.inl ⟨by rfl, ?_⟩) (by first | assumption | rfl) ?_
            rotate_left
            · intro w hS; try subst hS
              go_simp; try with_reducible rfl
            try simp only [Act.put, List.setIfInBounds_toArray, List.set_cons_zero, List.set_cons_succ]
            refine AnyH.take (i := 1) (d := some 101) (v := ?_) (by kernel_rfl) rfl rfl HF (fun _ _ _ h => h) (.inl ⟨by rfl, ?_⟩) (by first | assumption | rfl) ?_
            rotate_left
            · intro w hS; try subst hS
              go_simp; try with_reducible rfl
            try simp only [Act.put, List.setIfInBounds_toArray, List.set_cons_zero, List.set_cons_succ]
            refine AnyH.take (i := 2) (d := some 102) (v := ?_) (by kernel_rfl) rfl rfl HF (fun _ _ _ h => h) (.inl ⟨by rfl, ?_⟩) (by first | assumption | rfl) ?_
            rotate_left
            · intro w hS; try subst hS
              go_simp; try with_reducible rfl
            try simp only [Act.put, List.setIfInBounds_toArray, List.set_cons_zero, List.set_cons_succ]
            refine AnyH.take (i := 3) (d := some 103) (v := ?_) (by kernel_rfl) rfl rfl HF (fun _ _ _ h => h) (.inl ⟨by rfl, ?_⟩) (by first | assumption | rfl) ?_
            rotate_left
            · intro w hS; try subst hS
              go_simp; try with_reducible rfl
            try simp only [Act.put, List.setIfInBounds_toArray, List.set_cons_zero, List.set_cons_succ]
            refine AnyH.take (i := 4) (d := some 104) (v := ?_) (by kernel_rfl) rfl rfl HF (fun _ _ _ h => h) (.inl ⟨by rfl, ?_⟩) (by first | assumption | rfl) ?_
            rotate_left
            · intro w hS; try subst hS
              go_simp; try with_reducible rfl
            try simp only [Act.put, List.setIfInBounds_toArray, List.set_cons_zero, List.set_cons_succ]
            refine AnyH.take (i := 5) (d := some 105) (v := ?_) (by kernel_rfl) rfl rfl HF (fun _ _ _ h => h) (.inl ⟨by rfl, ?_⟩) (by first | assumption | rfl) ?_
            rotate_left
            · intro w hS; try subst hS
              go_simp; try with_reducible rfl
            try simp only [Act.put, List.setIfInBounds_toArray, List.set_cons_zero, List.set_cons_succ]
            refine AnyH.take (i := 6) (d := some 106) (v := ?_) (by kernel_rfl) rfl rfl HF (fun _ _ _ h => h) (.inl ⟨by rfl, ?_⟩) (by first | assumption | rfl) ?_
            rotate_left
            · intro w hS; try subst hS
              go_simp; try with_reducible rfl
            try simp only [Act.put, List.setIfInBounds_toArray, List.set_cons_zero, List.set_cons_succ]
            refine AnyH.take (i := 7) (d := some 107) (v := ?_) (by kernel_rfl) rfl rfl HF (fun _ _ _ h => h) (.inl ⟨by rfl, ?_⟩) (by first | assumption | rfl) ?_
            rotate_left
            · intro w hS; try subst hS
              go_simp; try with_reducible rfl
            try simp only [Act.put, List.setIfInBounds_toArray, List.set_cons_zero, List.set_cons_succ]
            refine AnyH.take (i := 8) (d := some 108) (v := ?_) (by kernel_rfl) rfl rfl HF (fun _ _ _ h => h) (.inl ⟨by rfl, ?_⟩) (by first | assumption | rfl) ?_
            rotate_left
            · intro w hS; try subst hS
              go_simp; try with_reducible rfl
            try simp only [Act.put, List.setIfInBounds_toArray, List.set_cons_zero, List.set_cons_succ]
            refine AnyH.take (i := 9) (d := some 109) (v := ?_) (by kernel_rfl) rfl rfl HF (fun _ _ _ h => h) (.inl ⟨by rfl, ?_⟩) (by first | assumption | rfl) ?_
            rotate_left
            · intro w hS; try subst hS
              go_simp; try with_reducible rfl
            try simp only [Act.put, List.setIfInBounds_toArray, List.set_cons_zero, List.set_cons_succ]
            refine AnyH.take (i := 10) (d := some 110) (v := ?_) (by kernel_rfl) rfl rfl HF (fun _ _ _ h => h) (.inl ⟨by rfl, ?_⟩) (by first | assumption | rfl) ?_
            rotate_left
            · intro w hS; try subst hS
              go_simp; try with_reducible rfl
            try simp only [Act.put, List.setIfInBounds_toArray, List.set_cons_zero, List.set_cons_succ]
            refine AnyH.take (i := 11) (d := some 111) (v := ?_) (by kernel_rfl) rfl rfl HF (fun _ _ _ h => h) (.inl ⟨by rfl, ?_⟩) (by first | assumption | rfl) ?_
            rotate_left
            · intro w hS; try subst hS
              go_simp; try with_reducible rfl
            try simp only [Act.put, List.setIfInBounds_toArray, List.set_cons_zero, List.set_cons_succ]
            refine AnyH.one (i := 12) (by kernel_rfl) (by kernel_rfl) rfl HF (by rfl) (fun K hK => ?_)
            go_simp
            first | ((with_reducible refine And.intro ?hdep ?_); (case hdep => first | rfl | (intro h; cases h))) | skip
            refine callsIn_wide.2 (HJ.out.mono ?_)
            rintro e w5 ⟨E1, id, rfl, s5, f5, x5, l5, bl5, b5, k5⟩
            have kt5 : Kt w2 w5 := V3k.trans k5
            have HS5 := Lib.hid s5; have HF5 := Lib.hid f5; have HX5 := Lib.hid x5; have HL5 := Lib.hid l5; have HBL5 := Lib.hid bl5; have HB5 := Lib.hid b5; have HK5 := Lib.hid kt5
            clear s5 f5 x5 l5 bl5 b5 k5 V3k
            refine hK _ _ kt5 ?_
            clear hK K kt5
            try simp only [Act.put, List.setIfInBounds_toArray, List.set_cons_zero, List.set_cons_succ]
            refine AnyH.take (i := 13) (d := some 99) (v := ?_) (by kernel_rfl) rfl rfl HF (fun _ _ _ h => h) (.inl ⟨by rfl, ?_⟩) (by first | assumption | rfl) ?_
            rotate_left
            · intro w hS; try subst hS
              go_simp; try with_reducible rfl
            try simp only [Act.put, List.setIfInBounds_toArray, List.set_cons_zero, List.set_cons_succ]
            refine AnyH.take (i := 14) (d := some 113) (v := ?_) (by kernel_rfl) rfl rfl HF (fun _ _ _ h => h) (.inl ⟨by rfl, ?_⟩) (by first | assumption | rfl) ?_
            rotate_left
            · intro w hS; try subst hS
              go_simp; try with_reducible rfl
            try simp only [Act.put, List.setIfInBounds_toArray, List.set_cons_zero, List.set_cons_succ]
            refine AnyH.take (i := 15) (d := some 114) (v := ?_) (by kernel_rfl) rfl rfl HF (fun _ _ _ h => h) (.inl ⟨by rfl, ?_⟩) (by first | assumption | rfl) ?_
            rotate_left
            · intro w hS; try subst hS
              go_simp; try with_reducible rfl
            try simp only [Act.put, List.setIfInBounds_toArray, List.set_cons_zero, List.set_cons_succ]
            refine AnyH.take (i := 16) (d := some 13) (v := ?_) (by kernel_rfl) rfl rfl HF (fun _ _ _ h => h) (.inl ⟨by rfl, ?_⟩) (by first | assumption | rfl) ?_
            rotate_left
            · intro w hS; try subst hS
              go_simp; try with_reducible rfl
            try simp only [Act.put, List.setIfInBounds_toArray, List.set_cons_zero, List.set_cons_succ]
            refine AnyH.take (i := 17) (d := some 14) (v := ?_) (by kernel_rfl) rfl rfl HF (fun _ _ _ h => h) (.inl ⟨by rfl, ?_⟩) (by first | assumption | rfl) ?_
            rotate_left
            · intro w hS; try subst hS
              go_simp; try with_reducible rfl
            try simp only [Act.put, List.setIfInBounds_toArray, List.set_cons_zero, List.set_cons_succ]
            refine AnyH.done (by kernel_rfl) ?_
            clear m0 m1 e1 e2 HJ
            have HTX5 : Hid (M.txt E1 id = ta ++ tb) := Lib.hid HBL5.out.txt
            have HIDP : Hid (0 < id) := Lib.hid (by
              rcases Nat.eq_zero_or_pos id with h | h
              · exfalso
                have h1 := (Bal0.zero HF5.out HBL5.out).1 h
                have h2 := (Bal0.zero HWD.out HBA.out.2)
                have h3 := HBA.out.1
                rw [List.append_eq_nil_iff] at h1
                have := h2.2 h1.1
                omega
              · exact h)
            have HNL : Hid ((M.txt E1 id).length = ln) := Lib.hid (by rw [HTX5.out, List.length_append]; have := HLA.out; have := HLB.out; have := HLN0.out; omega)
            have HN5 : Hid (n0 ≤ w5.heap.size) := Lib.hid (Nat.le_trans (Nat.le_trans HN2.out HV3.out.size) HB5.out.size)
            by_cases hsm : ln ≤ 4096
            · have hs3 : decide ((ln : Int) ≤ 4096) = true := decide_eq_true (by omega)
              have HSM := Lib.hid hsm
              have hya : Bys n0 w5 (slcV ua) ta := SlA.keep (HTA.out (by have := HLA.out; have := HLN0.out; omega)) (HK5.out _ (by decide) (by decide))
              have hyb : Bys n0 w5 (slcV ub) tb := SlA.keep (HTB.out (by have := HLB.out; have := HLN0.out; omega)) (HK5.out _ (by decide) (by decide))
              have hna : ta ≠ [] := fun h => by have := (Bal0.zero HWD.out HBA.out.2).2 h; have := HBA.out.1; omega
              have hnb2 : tb ≠ [] := fun h => by have := (Bal0.zero HWD.out HBB.out.2).2 h; have := HBB.out.1; omega
              obtain ⟨ga, ca, hsa⟩ : ∃ g c, ua = (some ⟨g, 0, none⟩, ta.length, c) := by
                rcases hya.shape with ⟨-, h⟩ | ⟨g, c, h, -, -⟩
                · exact absurd h hna
                · simp only [slcV, Value.slice.injEq] at h; exact ⟨g, c, Prod.ext h.1 (Prod.ext h.2.1 h.2.2)⟩
              obtain ⟨gb, cb, hsb⟩ : ∃ g c, ub = (some ⟨g, 0, none⟩, tb.length, c) := by
                rcases hyb.shape with ⟨-, h⟩ | ⟨g, c, h, -, -⟩
                · exact absurd h hnb2
                · simp only [slcV, Value.slice.injEq] at h; exact ⟨g, c, Prod.ext h.1 (Prod.ext h.2.1 h.2.2)⟩
              rw [hsa] at hya
              rw [hsb] at hyb
              obtain ⟨wp, hwp⟩ : ∃ w, w5.drew = w := ⟨_, rfl⟩
              have VP : Below w5.heap.size w5 wp := by rw [← hwp]; exact (Below.refl _ _).drew
              have hya' : Bys n0 wp (.slice (some ⟨ga, 0, none⟩) ta.length ca) ta := hya.below VP
              obtain ⟨v6, w6, hrun6, hown6, hg6, hb6⟩ := run_catO (l := []) (l2 := ta) elemB encB_len encB_one 32 (SlA.nil wp.heap.size wp 5 1 encB) hya' (by have := HLA.out; have := HLN0.out; simp; omega) (Nat.le_refl _)
              have V6 : Below w5.heap.size w5 w6 := Below.after VP hb6
              have hyb' : Bys n0 w6 (.slice (some ⟨gb, 0, none⟩) tb.length cb) tb := hyb.below V6
              obtain ⟨v7, w7, hrun7, hown7, hg7, hb7⟩ := run_catO (l2 := tb) elemB encB_len encB_one 32 hown6 hyb' (by have := HLA.out; have := HLB.out; have := HLN0.out; simp; omega) hb6.size
              have V7 : Below w5.heap.size w5 w7 := V6.trans (hb7.mono VP.size)
              obtain ⟨xx, xc, rfl⟩ := hown7.len
              rw [List.nil_append, List.length_append] at hown7 hrun7
              have hxn : ta.length + tb.length = ln := by have := HLA.out; have := HLB.out; have := HLN0.out; omega
              rw [hxn] at hown7 hrun7
              obtain ⟨na, hna'⟩ : ∃ x, ta.length = x := ⟨_, rfl⟩
              obtain ⟨nb, hnb'⟩ : ∃ x, tb.length = x := ⟨_, rfl⟩
              rw [hna'] at hrun6 hsa
              rw [hnb'] at hrun7 hsb
              have HOW := Lib.hid (SlA.mono hown7 (Nat.le_trans HN5.out VP.size))
              have hcc := HCI.out
              rw [hsa, hsb] at hcc
              have m3 : ∀ w, Below w5.heap.size w5 w → w.cell? ⟨gm, 3, none⟩ = some (.slice (some ⟨gt, 0, none⟩) n tc) := fun w hw => (McC.cells (below_block hw (HK5.out _ (by decide) (by decide) _ _ _ KM2.out))).2.2.2
              have e1 : ∀ w, Below w5.heap.size w5 w → w.cell? ⟨gt, qa, none⟩ = some (.slice (some ⟨ga, 0, none⟩) na ca) := fun w hw => (hcc w (HK5.out.trans (Kt.of hw))).2.2.2.2.1
              have e2 : ∀ w, Below w5.heap.size w5 w → w.cell? ⟨gt, qb, none⟩ = some (.slice (some ⟨gb, 0, none⟩) nb cb) := fun w hw => (hcc w (HK5.out.trans (Kt.of hw))).2.2.2.2.2
              clear hya hyb hya' hyb' hown6 hg6 hb6 hown7 hg7 hb7 hcc hsa hsb hna hnb2 hna' hnb' hxn
              go_wp2_with fail
              refine wp_region_anyH (Below w5.heap.size w5) (by kernel_rfl) ?_
              rw [hwp]
              clear hwp
              refine AnyH.take (i := 0) (d := some 120) (v := ?_) (by kernel_rfl) rfl rfl HF (fun _ _ _ h => h) (.inl ⟨by rfl, ?_⟩) (by first | assumption | rfl) ?_
              rotate_left
              · intro w hS; try subst hS
                go_simp; try with_reducible rfl
              try simp only [Act.put, List.setIfInBounds_toArray, List.set_cons_zero, List.set_cons_succ]
              refine AnyH.take (i := 1) (d := some 121) (v := ?_) (by kernel_rfl) rfl rfl HF (fun _ _ _ h => h) (.inl ⟨by rfl, ?_⟩) (by first | assumption | rfl) ?_
              rotate_left
              · intro w hS; try subst hS
                go_simp; try with_reducible rfl
              try simp only [Act.put, List.setIfInBounds_toArray, List.set_cons_zero, List.set_cons_succ]
              refine AnyH.take (i := 2) (d := some 122) (v := ?_) (by kernel_rfl) rfl rfl HF (fun _ _ _ h => h) (.inl ⟨by rfl, ?_⟩) (by first | assumption | rfl) ?_
              rotate_left
              · intro w hS; try subst hS
                go_simp; try with_reducible rfl
              try simp only [Act.put, List.setIfInBounds_toArray, List.set_cons_zero, List.set_cons_succ]
              refine AnyH.take (i := 3) (d := some 123) (v := ?_) (by kernel_rfl) rfl rfl HF (fun _ _ _ h => h) (.inl ⟨by rfl, ?_⟩) (by first | assumption | rfl) ?_
              rotate_left
              · intro w hS; try subst hS
                go_simp; try with_reducible rfl
              try simp only [Act.put, List.setIfInBounds_toArray, List.set_cons_zero, List.set_cons_succ]
              refine AnyH.take (i := 4) (d := some 124) (v := ?_) (by kernel_rfl) rfl rfl HF (fun _ _ _ h => h) (.inl ⟨by rfl, ?_⟩) (by first | assumption | rfl) ?_
              rotate_left
              · intro w hS; try subst hS
                go_simp; try with_reducible rfl
              try simp only [Act.put, List.setIfInBounds_toArray, List.set_cons_zero, List.set_cons_succ]
              refine AnyH.take (i := 5) (d := some 125) (v := ?_) (by kernel_rfl) rfl rfl HF (fun _ _ _ h => h) (.inl ⟨by rfl, ?_⟩) (by first | assumption | rfl) ?_
              rotate_left
              · intro w hS; try subst hS
                go_simp; try with_reducible rfl
              try simp only [Act.put, List.setIfInBounds_toArray, List.set_cons_zero, List.set_cons_succ]
              refine AnyH.take (i := 7) (d := some 127) (v := ?_) (by kernel_rfl) rfl rfl HF (fun _ _ _ h => h) (.inl ⟨by rfl, ?_⟩) (by first | assumption | rfl) ?_
              rotate_left
              · intro w hS; try subst hS
                go_simp; try with_reducible rfl
              try simp only [Act.put, List.setIfInBounds_toArray, List.set_cons_zero, List.set_cons_succ]
              refine AnyH.take (i := 8) (d := some 128) (v := ?_) (by kernel_rfl) rfl rfl HF (fun _ _ _ h => h) (.inl ⟨by rfl, ?_⟩) (by first | assumption | rfl) ?_
              rotate_left
              · intro w hS; try subst hS
                go_simp; try with_reducible rfl
              try simp only [Act.put, List.setIfInBounds_toArray, List.set_cons_zero, List.set_cons_succ]
              refine AnyH.take (i := 9) (d := some 129) (v := ?_) (by kernel_rfl) rfl rfl HF (fun _ _ _ h => h) (.inl ⟨by rfl, ?_⟩) (by first | assumption | rfl) ?_
              rotate_left
              · intro w hS; try subst hS
                go_simp; try with_reducible rfl
              try simp only [Act.put, List.setIfInBounds_toArray, List.set_cons_zero, List.set_cons_succ]
              refine AnyH.take (i := 10) (d := some 130) (v := ?_) (by kernel_rfl) rfl rfl HF (fun _ _ _ h => h) (.inl ⟨by rfl, ?_⟩) (by first | assumption | rfl) ?_
              rotate_left
              · intro w hS; try subst hS
                go_simp; try with_reducible rfl
              try simp only [Act.put, List.setIfInBounds_toArray, List.set_cons_zero, List.set_cons_succ]
              refine AnyH.take (i := 11) (d := some 131) (v := ?_) (by kernel_rfl) rfl rfl HF (fun _ _ _ h => h) (.inl ⟨by rfl, ?_⟩) (by first | assumption | rfl) ?_
              rotate_left
              · intro w hS; try subst hS
                go_simp; try with_reducible rfl
              try simp only [Act.put, List.setIfInBounds_toArray, List.set_cons_zero, List.set_cons_succ]
              refine AnyH.one (i := 6) (by kernel_rfl) (by kernel_rfl) rfl HF (by rfl) (fun K hK => ?_)
              simp [execOp, resolve, invoke, builtin, hrun6, Result.andThen, Act.eval, Oper.uponIn]
              refine hK _ _ V6 ?_
              clear hK K
              try simp only [Act.put, List.setIfInBounds_toArray, List.set_cons_zero, List.set_cons_succ]
              refine AnyH.one (i := 12) (by kernel_rfl) (by kernel_rfl) rfl HF (by rfl) (fun K hK => ?_)
              simp [execOp, resolve, invoke, builtin, hrun7, Result.andThen, Act.eval, Oper.uponIn]
              refine hK _ _ V7 ?_
              clear hK K
              try simp only [Act.put, List.setIfInBounds_toArray, List.set_cons_zero, List.set_cons_succ]
              refine AnyH.take (i := 13) (d := some 15) (v := ?_) (by kernel_rfl) rfl rfl HF (fun _ _ _ h => h) (.inl ⟨by rfl, ?_⟩) (by first | assumption | rfl) ?_
              rotate_left
              · intro w hS; try subst hS
                go_simp; try with_reducible rfl
              try simp only [Act.put, List.setIfInBounds_toArray, List.set_cons_zero, List.set_cons_succ]
              refine AnyH.done (by kernel_rfl) ?_
              clear m3 e1 e2 hrun6 hrun7 VP V6
              have HT7 : Hid ((M.txt E1 id).length ≤ 4096 → Bys n0 w7 (.slice xx ln xc) (M.txt E1 id)) := Lib.hid (fun _ => by rw [HTX5.out]; exact HOW.out)
              obtain ⟨ux, hux⟩ : ∃ u : Slc, (xx, ln, xc) = u := ⟨_, rfl⟩
              have HV7 := Lib.hid V7
              clear V7 hux hsm
              obtain ⟨wq, hwq⟩ : ∃ w, w7.drew = w := ⟨_, rfl⟩
              have D : Below w7.heap.size w7 wq := by rw [← hwq]; exact (Below.refl _ _).drew
              have D5 : Below w5.heap.size w5 wq := Below.after HV7.out D
              have kq : ∀ t, t ≠ 116 → t ≠ 122 → KeepT t w2 wq := fun t h1 h2 k cs fz e => below_block D5 (HK5.out t h1 h2 k cs fz e)
              have hnq : n0 ≤ wq.heap.size := Nat.le_trans HN5.out D5.size
              have HSP : Hid (SpB wq gs s) := Lib.hid (kq _ (by decide) (by decide) _ _ _ KS2.out)
              have HMC : Hid (∀ w, KpL MdT n0 wq w → McC w gm B (.slice (some ⟨gi, 0, none⟩) n ic) (.slice (some ⟨gl, 0, none⟩) n lc) (.slice (some ⟨gt, 0, none⟩) n tc)) := Lib.hid (fun w hw => hw.cells _ (by decide) _ _ _ (kq _ (by decide) (by decide) _ _ _ KM2.out))
              have HMZ : Hid (MzC wq n0) := Lib.hid (kq _ (by decide) (by decide) _ _ _ KZ2.out)
              have HSQ : Hid (SMd n0 (.slice (some ⟨gi, 0, none⟩) n ic) (.slice (some ⟨gl, 0, none⟩) n lc) (.slice (some ⟨gt, 0, none⟩) n tc) ids ls T wq wq) := Lib.hid ⟨KpL.of (Below.refl _ _) hnq, SlA.keep HIV.out (kq _ (by decide) (by decide)), SlA.keep HLV.out (kq _ (by decide) (by decide)), SlA.keep HTV.out (kq _ (by decide) (by decide)), hnq⟩
              have ZK : Hid (∀ u w w', ZB n0 (xx, ln, xc) (M.txt E1 id) u w → KeepT 5 w w' → ZB n0 (xx, ln, xc) (M.txt E1 id) u w') := Lib.hid (fun u w w' ⟨e, k⟩ hk => ⟨e, fun hl => SlA.keep (k hl) hk⟩)
              have ZL : Hid (∀ y u, ZB n0 (xx, ln, xc) (M.txt E1 id) u y → (M.txt E1 id).length ≤ 4096 → Bys n0 y (slcV u) (M.txt E1 id)) := Lib.hid (fun y u ⟨e, k⟩ hl => k hl)
              have HTX : Hid (∀ w, KeepT 5 wq w → (M.txt E1 id).length ≤ 4096 → Bys n0 w (.slice xx ln xc) (M.txt E1 id)) := Lib.hid (fun w hw hl => SlA.keep (SlA.below (HT7.out hl) D) hw)
              have HMO : Hid (∀ y, KeepT 5 wq y → MdOk n0 y E1 ids T) := Lib.hid (fun y hy => (HOK.out.keep ((kq _ (by decide) (by decide)).trans hy)).ext HX5.out)
              have HID : Hid (0 < id ∧ Bal0 E1 id (M.txt E1 id)) := Lib.hid ⟨HIDP.out, HBL5.out.le, rfl, HBL5.out.even⟩
              have HLN : Hid (lnF E1 ids = ls ∧ (M.txt E1 id).length = ln) := Lib.hid ⟨by rw [lnF_ext HX5.out (fun i hi => (HOK.out.bal i hi).2.le)]; exact HLS.out, HNL.out⟩
              have HWF1 := Lib.hid HF5.out
              have HEL : Hid (E1.length ≤ 260 * (i + 1)) := Lib.hid (by have := HE0.out; have := HL5.out; omega)
              have HBQ : Hid (Below n0 W wq) := Lib.hid (((HB2.out.trans (HV3.out.mono HN2.out)).trans HB5.out).trans (D5.mono HN5.out))
              have HNQ := Lib.hid hnq
              have HSTQ : Hid (StAt n0 wq B 1048576 E1) := Lib.hid (HS5.out.below D5)
              clear D D5 kq hnq
              go_wp2_with fail
              try rw [hs3]
              clear hs3
              try clear hs5
              refine wp_region_anyH (fun w => SpB w gs s) (by kernel_rfl) ?_
              rw [hwq]
              clear hwq
              refine AnyH.take (i := 0) (d := some 133) (v := ?_) (by kernel_rfl) rfl rfl HF (fun _ _ _ h => h) (.inl ⟨by rfl, ?_⟩) (by first | assumption | rfl) ?_
              rotate_left
              · intro w hS; try subst hS
                go_simp; try with_reducible rfl
              try simp only [Act.put, List.setIfInBounds_toArray, List.set_cons_zero, List.set_cons_succ]
              refine AnyH.take (i := 2) (d := some 135) (v := ?_) (by kernel_rfl) rfl rfl HF (fun _ _ _ h => h) (.inl ⟨by rfl, ?_⟩) (by first | assumption | rfl) ?_
              rotate_left
              · intro w hS; try subst hS
                go_simp; try with_reducible rfl
              try simp only [Act.put, List.setIfInBounds_toArray, List.set_cons_zero, List.set_cons_succ]
              refine AnyH.take (i := 5) (d := some 138) (v := ?_) (by kernel_rfl) rfl rfl HF (fun _ _ _ h => h) (.inl ⟨by rfl, ?_⟩) (by first | assumption | rfl) ?_
              rotate_left
              · intro w hS; try subst hS
                go_simp; try with_reducible rfl
              try simp only [Act.put, List.setIfInBounds_toArray, List.set_cons_zero, List.set_cons_succ]
              refine AnyH.take (i := 7) (d := some 140) (v := ?_) (by kernel_rfl) rfl rfl HF (fun _ _ _ h => h) (.inl ⟨by rfl, ?_⟩) (by first | assumption | rfl) ?_
              rotate_left
              · intro w hS; try subst hS
                go_simp; try with_reducible rfl
              try simp only [Act.put, List.setIfInBounds_toArray, List.set_cons_zero, List.set_cons_succ]
              refine AnyH.take (i := 10) (d := some 143) (v := ?_) (by kernel_rfl) rfl rfl HF (fun _ _ _ h => h) (.inl ⟨by rfl, ?_⟩) (by first | assumption | rfl) ?_
              rotate_left
              · intro w hS; try subst hS
                go_simp; try with_reducible rfl
              try simp only [Act.put, List.setIfInBounds_toArray, List.set_cons_zero, List.set_cons_succ]
              refine AnyH.take (i := 12) (d := some 145) (v := ?_) (by kernel_rfl) rfl rfl HF (fun _ _ _ h => h) (.inl ⟨by rfl, ?_⟩) (by first | assumption | rfl) ?_
              rotate_left
              · intro w hS; try subst hS
                go_simp; try with_reducible rfl
              try simp only [Act.put, List.setIfInBounds_toArray, List.set_cons_zero, List.set_cons_succ]
              refine AnyH.floatBL (S1 := SMd n0 (.slice (some ⟨gi, 0, none⟩) n ic) (.slice (some ⟨gl, 0, none⟩) n lc) (.slice (some ⟨gt, 0, none⟩) n tc) ids ls T wq) [1, 3, 4, 6, 8, 9, 11, 13, 14, 15] 5
                (fun x => match x with | 4 => [1, 3] | 9 => [1, 3, 4, 6, 8] | 14 => [1, 3, 4, 6, 8, 9, 11, 13] | 15 => [1, 3, 4, 6, 11] | _ => [])
                (fun x => match x with | 4 => [1, 3] | 9 => [6, 8] | 14 => [11, 13] | _ => [])
                (fun x => match x with | 1 => [3, 6, 8, 11, 13] | 3 => [1, 6, 8, 11, 13] | 4 => [6, 8, 11, 13] | 6 => [1, 3, 4, 8, 11, 13] | 8 => [1, 3, 4, 6, 11, 13, 15] | 9 => [4, 11, 13, 15] | 11 => [1, 3, 4, 6, 8, 9, 13] | 13 => [1, 3, 4, 6, 8, 9, 11, 15] | 14 => [4, 9, 15] | 15 => [4, 6, 8, 9, 11, 13, 14] | _ => [])
                (fun x => match x with | 1 => 134 | 3 => 136 | 4 => 137 | 6 => 139 | 8 => 141 | 9 => 142 | 11 => 144 | 13 => 146 | 14 => 147 | _ => 148) (fun x => x == 4 || x == 9 || x == 14 || x == 15)
                (fun x => PPm n0 (.slice (some ⟨gi, 0, none⟩) n ic) (.slice (some ⟨gl, 0, none⟩) n lc) (.slice (some ⟨gt, 0, none⟩) n tc) ids id ls ln T 0 (ZB n0 (xx, ln, xc) (M.txt E1 id)) (.pointer (some ⟨gm, 1, none⟩)) ((fun x => match x with | 1 => 0 | 3 => 3 | 4 => 4 | 6 => 1 | 8 => 5 | 9 => 6 | 11 => 2 | 13 => 8 | 14 => 9 | 15 => 10 | _ => 11) x)) (fun x => FRm ((fun x => match x with | 1 => 0 | 3 => 3 | 4 => 4 | 6 => 1 | 8 => 5 | 9 => 6 | 11 => 2 | 13 => 8 | 14 => 9 | 15 => 10 | _ => 11) x)) ?fok ?dok ?mok (by kernel_rfl) HF (fun w h => KpL.cells h.1 _ (by decide) _ _ _ HSP.out) HSQ.out ?mono ?step ?tail
              case fok => kernel_rfl
              case dok => kernel_rfl
              case mok => kernel_rfl
              case mono =>
                intro x hx i hi v w w' hP hR
                simp only [List.mem_cons, List.not_mem_nil, or_false] at hx
                rcases hx with rfl | rfl | rfl | rfl | rfl | rfl | rfl | rfl | rfl | rfl
                · exact PPm.keep ZK.out hP (fun t ht => KeepT.below hR)
                · exact PPm.keep ZK.out hP (fun t ht => KeepT.below hR)
                · simp only [List.mem_cons, List.not_mem_nil, or_false] at hi
                  rcases hi with rfl | rfl | rfl | rfl
                  all_goals
                    have hR' : ∀ t, t ≠ 31 → KeepT t w w' := hR
                    exact PPm.keep ZK.out hP (fun t ht => hR' t (fun e => by subst e; revert ht; decide))
                · exact PPm.keep ZK.out hP (fun t ht => KeepT.below hR)
                · exact PPm.keep ZK.out hP (fun t ht => KeepT.below hR)
                · simp only [List.mem_cons, List.not_mem_nil, or_false] at hi
                  rcases hi with rfl | rfl | rfl | rfl
                  all_goals
                    have hR' : ∀ t, t ≠ 3 → KeepT t w w' := hR
                    exact PPm.keep ZK.out hP (fun t ht => hR' t (fun e => by subst e; revert ht; decide))
                · exact PPm.keep ZK.out hP (fun t ht => KeepT.below hR)
                · exact PPm.keep ZK.out hP (fun t ht => KeepT.below hR)
                · simp only [List.mem_cons, List.not_mem_nil, or_false] at hi
                  rcases hi with rfl | rfl | rfl
                  all_goals
                    have hR' : ∀ t, t ≠ 32 → KeepT t w w' := hR
                    exact PPm.keep ZK.out hP (fun t ht => hR' t (fun e => by subst e; revert ht; decide))
                · exact PPm.keep ZK.out hP (fun t ht => KeepT.below hR)
              case step =>
                intro x hx vs w hS hP K hK
                simp only [List.mem_cons, List.not_mem_nil, or_false] at hx
                rcases hx with rfl | rfl | rfl | rfl | rfl | rfl | rfl | rfl | rfl | rfl
                · obtain ⟨c0, c1, c2, c3⟩ := (HMC.out w hS.1).cells
                  refine StepIn.mk rfl (by rfl) ?_
                  simp only [putL, List.foldl_nil, List.foldl_cons, Act.put, List.setIfInBounds_toArray, List.set_cons_zero, List.set_cons_succ] at hK ⊢
                  go_simp
                  exact hK _ _ hS (Below.refl _ _) rfl
                · refine StepIn.mk rfl (by rfl) ?_
                  simp only [putL, List.foldl_nil, List.foldl_cons, Act.put, List.setIfInBounds_toArray, List.set_cons_zero, List.set_cons_succ] at hK ⊢
                  go_simp
                  exact hK _ _ (hS.below ((Below.refl _ _).alloc (Nat.le_refl _) _)) ((Below.refl _ _).alloc (Nat.le_refl _) _) ⟨_, rfl, SlA.mono (SlA.lit (l := [id]) encI_len rfl (by simp; unfold maxLen; omega)) hS.2.2.2.2⟩
                · have e1 : vs 1 = .slice (some ⟨gi, 0, none⟩) n ic := hP 1 (by simp)
                  obtain ⟨g1, e2, h2⟩ := hP 3 (by simp)
                  rw [e2] at h2
                  obtain ⟨v', w', hrun, hown, hg, hb, hold⟩ := run_catK (l2 := [id]) elemId encI_len encI_one 24 hS.2.1 h2 rfl (HAPP.out.1) hS.2.2.2.2
                  refine StepIn.mk rfl (by rfl) ?_
                  simp only [putL, List.foldl_nil, List.foldl_cons, e1, e2, Act.put, List.setIfInBounds_toArray, List.set_cons_zero, List.set_cons_succ] at hK ⊢
                  simp [execOp, resolve, invoke, builtin, hrun, Result.andThen, Act.eval, Oper.uponIn]
                  exact hK _ _ (hS.own1 hg hold) (fun t ht => keep_own hS.2.1 hg ht) hown
                · obtain ⟨c0, c1, c2, c3⟩ := (HMC.out w hS.1).cells
                  refine StepIn.mk rfl (by rfl) ?_
                  simp only [putL, List.foldl_nil, List.foldl_cons, Act.put, List.setIfInBounds_toArray, List.set_cons_zero, List.set_cons_succ] at hK ⊢
                  go_simp
                  exact hK _ _ hS (Below.refl _ _) rfl
                · refine StepIn.mk rfl (by rfl) ?_
                  simp only [putL, List.foldl_nil, List.foldl_cons, Act.put, List.setIfInBounds_toArray, List.set_cons_zero, List.set_cons_succ] at hK ⊢
                  go_simp
                  exact hK _ _ (hS.below ((Below.refl _ _).alloc (Nat.le_refl _) _)) ((Below.refl _ _).alloc (Nat.le_refl _) _) ⟨_, rfl, SlA.mono (SlA.lit (l := [ln]) encI_len rfl (by simp; unfold maxLen; omega)) hS.2.2.2.2⟩
                · have e1 : vs 6 = .slice (some ⟨gl, 0, none⟩) n lc := hP 6 (by simp)
                  obtain ⟨g1, e2, h2⟩ := hP 8 (by simp)
                  rw [e2] at h2
                  obtain ⟨v', w', hrun, hown, hg, hb, hold⟩ := run_catK (l2 := [ln]) elemIt encI_len encI_one 25 hS.2.2.1 h2 rfl (HAPP.out.2.1) hS.2.2.2.2
                  refine StepIn.mk rfl (by rfl) ?_
                  simp only [putL, List.foldl_nil, List.foldl_cons, e1, e2, Act.put, List.setIfInBounds_toArray, List.set_cons_zero, List.set_cons_succ] at hK ⊢
                  simp [execOp, resolve, invoke, builtin, hrun, Result.andThen, Act.eval, Oper.uponIn]
                  exact hK _ _ (hS.own2 hg hold) (fun t ht => keep_own hS.2.2.1 hg ht) hown
                · obtain ⟨c0, c1, c2, c3⟩ := (HMC.out w hS.1).cells
                  refine StepIn.mk rfl (by rfl) ?_
                  simp only [putL, List.foldl_nil, List.foldl_cons, Act.put, List.setIfInBounds_toArray, List.set_cons_zero, List.set_cons_succ] at hK ⊢
                  go_simp
                  exact hK _ _ hS (Below.refl _ _) rfl
                · refine StepIn.mk rfl (by rfl) ?_
                  simp only [putL, List.foldl_nil, List.foldl_cons, Act.put, List.setIfInBounds_toArray, List.set_cons_zero, List.set_cons_succ] at hK ⊢
                  go_simp
                  exact hK _ _ (hS.below ((Below.refl _ _).alloc (Nat.le_refl _) _)) ((Below.refl _ _).alloc (Nat.le_refl _) _) ⟨_, (xx, ln, xc), rfl, SlA.mono (SlA.lit (l := [((xx, ln, xc) : Slc)]) encS_len rfl (by simp; unfold maxLen; omega)) hS.2.2.2.2, rfl, fun hl => SlA.below (HTX.out w (hS.1.cells _ (by decide)) hl) ((Below.refl _ _).alloc (Nat.le_refl _) _)⟩
                · have e1 : vs 11 = .slice (some ⟨gt, 0, none⟩) n tc := hP 11 (by simp)
                  obtain ⟨g1, u1, e2, h2, hz⟩ := hP 13 (by simp)
                  rw [e2] at h2
                  obtain ⟨v', w', hrun, hown, hg, hb, hold⟩ := run_catK (l2 := [u1]) elemSl encS_len encS_one 26 hS.2.2.2.1 h2 rfl (HAPP.out.2.2 u1) hS.2.2.2.2
                  refine StepIn.mk rfl (by rfl) ?_
                  simp only [putL, List.foldl_nil, List.foldl_cons, e1, e2, Act.put, List.setIfInBounds_toArray, List.set_cons_zero, List.set_cons_succ] at hK ⊢
                  simp [execOp, resolve, invoke, builtin, hrun, Result.andThen, Act.eval, Oper.uponIn]
                  exact hK _ _ (hS.own3 hg hold) (fun t ht => keep_own hS.2.2.2.1 hg ht) ⟨u1, hown, ZK.out _ _ _ hz (keep_own hS.2.2.2.1 hg (by decide))⟩
                · obtain ⟨c0, c1, c2, c3⟩ := (HMC.out w hS.1).cells
                  refine StepIn.mk rfl (by rfl) ?_
                  simp only [putL, List.foldl_nil, List.foldl_cons, Act.put, List.setIfInBounds_toArray, List.set_cons_zero, List.set_cons_succ] at hK ⊢
                  go_simp
                  exact hK _ _ hS (Below.refl _ _) rfl
              case tail =>
                intro vs w hS hP
                have h1 := Lib.hid (show IdW n0 w (vs 4) (ids ++ [id]) from hP 4 (by simp) rfl)
                have h2 := Lib.hid (show ItW n0 w (vs 9) (ls ++ [ln]) from hP 9 (by simp) rfl)
                obtain ⟨u1, h3, hz⟩ := hP 14 (by simp) rfl
                have h10 : vs 15 = .pointer (some ⟨gm, 1, none⟩) := hP 15 (by simp) rfl
                have HT := Lib.hid h3; have HZZ := Lib.hid hz
                have HS := Lib.hid hS
                simp only [putL, List.foldl_nil, List.foldl_cons, h10, Act.put, List.setIfInBounds_toArray, List.set_cons_zero, List.set_cons_succ]
                clear hP h3 hz h10
                generalize vs 4 = x1 at *
                generalize vs 9 = x2 at *
                generalize vs 14 = x3 at *
                obtain ⟨a1, z1, rfl⟩ := h1.out.len
                obtain ⟨a2, z2, rfl⟩ := h2.out.len
                obtain ⟨a3, z3, rfl⟩ := HT.out.len
                rw [List.length_append, List.length_singleton] at h1 h2 HT
                simp only [List.length_append, List.length_singleton]
                obtain ⟨n1, hn1⟩ : ∃ k, ids.length + 1 = k := ⟨_, rfl⟩
                obtain ⟨n2, hn2⟩ : ∃ k, ls.length + 1 = k := ⟨_, rfl⟩
                obtain ⟨n3, hn3⟩ : ∃ k, T.length + 1 = k := ⟨_, rfl⟩
                rw [hn1] at h1 ⊢
                rw [hn2] at h2 ⊢
                rw [hn3] at HT ⊢
                clear hn1 hn2 hn3
                have k0 := HMC.out w hS.1
                obtain ⟨c0, c1, c2, c3⟩ := k0.cells
                have f1 := k0.free 1; have f2 := k0.free 2; have f3 := k0.free 3
                obtain ⟨y1, hy1⟩ : ∃ x, w.setCell ⟨gm, 1, none⟩ (.slice a1 n1 z1) = x := ⟨_, rfl⟩
                have k1 : McC y1 gm B (.slice a1 n1 z1) (.slice (some ⟨gl, 0, none⟩) n lc) (.slice (some ⟨gt, 0, none⟩) n tc) := by rw [← hy1]; unfold McC at k0 ⊢; exact heap_set0 _ k0
                obtain ⟨d0, d1, d2, d3⟩ := k1.cells
                have g1 := k1.free 1; have g2 := k1.free 2; have g3 := k1.free 3
                obtain ⟨y2, hy2⟩ : ∃ x, y1.setCell ⟨gm, 2, none⟩ (.slice a2 n2 z2) = x := ⟨_, rfl⟩
                have k2 : McC y2 gm B (.slice a1 n1 z1) (.slice a2 n2 z2) (.slice (some ⟨gt, 0, none⟩) n tc) := by rw [← hy2]; unfold McC at k1 ⊢; exact heap_set0 _ k1
                obtain ⟨e0, e1, e2, e3⟩ := k2.cells
                have i1 := k2.free 1; have i2 := k2.free 2; have i3 := k2.free 3
                obtain ⟨y3, hy3⟩ : ∃ x, y2.setCell ⟨gm, 3, none⟩ (.slice a3 n3 z3) = x := ⟨_, rfl⟩
                have k3 : McC y3 gm B (.slice a1 n1 z1) (.slice a2 n2 z2) (.slice a3 n3 z3) := by rw [← hy3]; unfold McC at k2 ⊢; exact heap_set0 _ k2
                have p0 : SpB w gs s := KpL.cells hS.1 _ (by decide) _ _ _ HSP.out
                have p1 : SpB y1 gs s := by rw [← hy1]; exact set_other HGS.out.2 p0
                have p2 : SpB y2 gs s := by rw [← hy2]; exact set_other HGS.out.2 p1
                have p3 : SpB y3 gs s := by rw [← hy3]; exact set_other HGS.out.2 p2
                have HY : Hid (McC y3 gm B (.slice a1 n1 z1) (.slice a2 n2 z2) (.slice a3 n3 z3) ∧ (∀ t, t ≠ 28 → KeepT t w y3) ∧ (∀ D : World, KpL MdT n0 D w → StAt n0 D B 1048576 E1 → StAt n0 y3 B 1048576 E1) ∧ MzC y3 n0 ∧ Below n0 wq y3) := Lib.hid (by
                  have kt : ∀ t, t ≠ 28 → KeepT t w y3 := fun t ht => by
                    rw [← hy3, ← hy2, ← hy1]
                    rw [← hy2, ← hy1] at k2
                    rw [← hy1] at k1
                    exact ((KeepT.setCell (a := ⟨gm, 1, none⟩) k0 (Ne.symm ht)).trans (KeepT.setCell (a := ⟨gm, 2, none⟩) k1 (Ne.symm ht))).trans (KeepT.setCell (a := ⟨gm, 3, none⟩) k2 (Ne.symm ht))
                  refine ⟨k3, kt, fun D hD hst => ?_, ?_, ?_⟩
                  · rw [← hy3, ← hy2, ← hy1]
                    rw [← hy2, ← hy1] at k2
                    rw [← hy1] at k1
                    exact (((hst.kpl hD (by decide) (by decide)).set k0 (by decide) (by decide) _).set k1 (by decide) (by decide) _).set k2 (by decide) (by decide) _
                  · have q0 : MzC w n0 := KpL.cells hS.1 _ (by decide) _ _ _ HMZ.out
                    rw [← hy3, ← hy2, ← hy1]
                    exact set_other HGS.out.1 (set_other HGS.out.1 (set_other HGS.out.1 q0))
                  · rw [← hy3, ← hy2, ← hy1]
                    exact ((hS.1.below.setCell (p := ⟨gm, 1, none⟩) HGM.out _).setCell (p := ⟨gm, 2, none⟩) HGM.out _).setCell (p := ⟨gm, 3, none⟩) HGM.out _)
                clear hS k0 k1 k2 k3 p0
                refine AnyH.one (i := 16) (by kernel_rfl) (by kernel_rfl) rfl HF (by rfl) (fun K hK => ?_)
                go_simp
                refine hK _ _ p1 ?_
                clear hK K
                try simp only [Act.put, List.setIfInBounds_toArray, List.set_cons_zero, List.set_cons_succ]
                refine AnyH.take (i := 17) (d := some 149) (v := ?_) (by kernel_rfl) rfl rfl HF (fun _ _ _ h => h) (.inl ⟨by rfl, ?_⟩) (by first | assumption | rfl) ?_
                rotate_left
                · intro w hS; try subst hS
                  go_simp; try with_reducible rfl
                try simp only [Act.put, List.setIfInBounds_toArray, List.set_cons_zero, List.set_cons_succ]
                refine AnyH.one (i := 18) (by kernel_rfl) (by kernel_rfl) rfl HF (by rfl) (fun K hK => ?_)
                go_simp
                refine hK _ _ p2 ?_
                clear hK K
                try simp only [Act.put, List.setIfInBounds_toArray, List.set_cons_zero, List.set_cons_succ]
                refine AnyH.take (i := 19) (d := some 150) (v := ?_) (by kernel_rfl) rfl rfl HF (fun _ _ _ h => h) (.inl ⟨by rfl, ?_⟩) (by first | assumption | rfl) ?_
                rotate_left
                · intro w hS; try subst hS
                  go_simp; try with_reducible rfl
                try simp only [Act.put, List.setIfInBounds_toArray, List.set_cons_zero, List.set_cons_succ]
                refine AnyH.one (i := 20) (by kernel_rfl) (by kernel_rfl) rfl HF (by rfl) (fun K hK => ?_)
                go_simp
                refine hK _ _ p3 ?_
                clear hK K
                try simp only [Act.put, List.setIfInBounds_toArray, List.set_cons_zero, List.set_cons_succ]
                refine AnyH.done (by kernel_rfl) ?_
                clear c0 c1 c2 c3 f1 f2 f3 d0 d1 d2 d3 g1 g2 g3 e0 e1 e2 e3 i1 i2 i3 hy1 hy2 hy3 p1 p2 p3
                go_wp2_with fail
                go_roundw
                case rel => exact ⟨i + 1, E1, ids ++ [id], T ++ [u1], by go_num, by have := HI.out; omega, by have := HI.out; omega, HY.out.2.2.1 wq HS.out.1 HSTQ.out, HWF1.out, by have := HEL.out; omega, ⟨_, _, _, HY.out.1, SlA.keep h1.out (HY.out.2.1 _ (by decide)), by
                  rw [lnF_snoc, HLN.out.1, HLN.out.2]
                  exact SlA.keep h2.out (HY.out.2.1 _ (by decide)), SlA.keep HT.out (HY.out.2.1 _ (by decide)), MdOk.snoc (HMO.out y3 (((HS.out.1.cells _ (by decide))).trans (HY.out.2.1 _ (by decide)))) HID.out.1 HID.out.2 (fun hl => ZL.out y3 u1 (ZK.out _ _ _ HZZ.out (HY.out.2.1 _ (by decide))) hl)⟩, by rw [List.length_append, List.length_singleton]; have := HIL.out; omega, HY.out.2.2.2.1, HBQ.out.trans HY.out.2.2.2.2, Nat.le_trans HNQ.out HY.out.2.2.2.2.size⟩
                case measure => have := HI.out; simp [intOf]; omega
            · have hs3 : decide ((ln : Int) ≤ 4096) = false := decide_eq_false (by omega)
              have hs5 : ¬ (ln : Int) ≤ 4096 := by omega
              have HT7 : Hid ((M.txt E1 id).length ≤ 4096 → Bys n0 w5 (.slice none 0 0) (M.txt E1 id)) := Lib.hid (fun h => by exfalso; have := HNL.out; omega)
              obtain ⟨w7, hw7⟩ : ∃ w, w = w5 := ⟨_, rfl⟩
              have HV7 : Hid (Below w5.heap.size w5 w5) := Lib.hid (Below.refl _ _)
              clear hsm
              obtain ⟨wq, hwq⟩ : ∃ w, w5.drew = w := ⟨_, rfl⟩
              have D : Below w5.heap.size w5 wq := by rw [← hwq]; exact (Below.refl _ _).drew
              have D5 : Below w5.heap.size w5 wq := Below.after HV7.out D
              have kq : ∀ t, t ≠ 116 → t ≠ 122 → KeepT t w2 wq := fun t h1 h2 k cs fz e => below_block D5 (HK5.out t h1 h2 k cs fz e)
              have hnq : n0 ≤ wq.heap.size := Nat.le_trans HN5.out D5.size
              have HSP : Hid (SpB wq gs s) := Lib.hid (kq _ (by decide) (by decide) _ _ _ KS2.out)
              have HMC : Hid (∀ w, KpL MdT n0 wq w → McC w gm B (.slice (some ⟨gi, 0, none⟩) n ic) (.slice (some ⟨gl, 0, none⟩) n lc) (.slice (some ⟨gt, 0, none⟩) n tc)) := Lib.hid (fun w hw => hw.cells _ (by decide) _ _ _ (kq _ (by decide) (by decide) _ _ _ KM2.out))
              have HMZ : Hid (MzC wq n0) := Lib.hid (kq _ (by decide) (by decide) _ _ _ KZ2.out)
              have HSQ : Hid (SMd n0 (.slice (some ⟨gi, 0, none⟩) n ic) (.slice (some ⟨gl, 0, none⟩) n lc) (.slice (some ⟨gt, 0, none⟩) n tc) ids ls T wq wq) := Lib.hid ⟨KpL.of (Below.refl _ _) hnq, SlA.keep HIV.out (kq _ (by decide) (by decide)), SlA.keep HLV.out (kq _ (by decide) (by decide)), SlA.keep HTV.out (kq _ (by decide) (by decide)), hnq⟩
              have ZK : Hid (∀ u w w', ZB n0 (none, 0, 0) (M.txt E1 id) u w → KeepT 5 w w' → ZB n0 (none, 0, 0) (M.txt E1 id) u w') := Lib.hid (fun u w w' ⟨e, k⟩ hk => ⟨e, fun hl => SlA.keep (k hl) hk⟩)
              have ZL : Hid (∀ y u, ZB n0 (none, 0, 0) (M.txt E1 id) u y → (M.txt E1 id).length ≤ 4096 → Bys n0 y (slcV u) (M.txt E1 id)) := Lib.hid (fun y u ⟨e, k⟩ hl => k hl)
              have HTX : Hid (∀ w, KeepT 5 wq w → (M.txt E1 id).length ≤ 4096 → Bys n0 w (.slice none 0 0) (M.txt E1 id)) := Lib.hid (fun w hw hl => SlA.keep (SlA.below (HT7.out hl) D) hw)
              have HMO : Hid (∀ y, KeepT 5 wq y → MdOk n0 y E1 ids T) := Lib.hid (fun y hy => (HOK.out.keep ((kq _ (by decide) (by decide)).trans hy)).ext HX5.out)
              have HID : Hid (0 < id ∧ Bal0 E1 id (M.txt E1 id)) := Lib.hid ⟨HIDP.out, HBL5.out.le, rfl, HBL5.out.even⟩
              have HLN : Hid (lnF E1 ids = ls ∧ (M.txt E1 id).length = ln) := Lib.hid ⟨by rw [lnF_ext HX5.out (fun i hi => (HOK.out.bal i hi).2.le)]; exact HLS.out, HNL.out⟩
              have HWF1 := Lib.hid HF5.out
              have HEL : Hid (E1.length ≤ 260 * (i + 1)) := Lib.hid (by have := HE0.out; have := HL5.out; omega)
              have HBQ : Hid (Below n0 W wq) := Lib.hid (((HB2.out.trans (HV3.out.mono HN2.out)).trans HB5.out).trans (D5.mono HN5.out))
              have HNQ := Lib.hid hnq
              have HSTQ : Hid (StAt n0 wq B 1048576 E1) := Lib.hid (HS5.out.below D5)
              clear D D5 kq hnq
              go_wp2_with fail
              try rw [hs3]
              clear hs3
              try clear hs5
              refine wp_region_anyH (fun w => SpB w gs s) (by kernel_rfl) ?_
              rw [hwq]
              clear hwq
              refine AnyH.take (i := 0) (d := some 133) (v := ?_) (by kernel_rfl) rfl rfl HF (fun _ _ _ h => h) (.inl ⟨by rfl, ?_⟩) (by first | assumption | rfl) ?_
              rotate_left
              · intro w hS; try subst hS
                go_simp; try with_reducible rfl
              try simp only [Act.put, List.setIfInBounds_toArray, List.set_cons_zero, List.set_cons_succ]
              refine AnyH.take (i := 2) (d := some 135) (v := ?_) (by kernel_rfl) rfl rfl HF (fun _ _ _ h => h) (.inl ⟨by rfl, ?_⟩) (by first | assumption | rfl) ?_
              rotate_left
              · intro w hS; try subst hS
                go_simp; try with_reducible rfl
              try simp only [Act.put, List.setIfInBounds_toArray, List.set_cons_zero, List.set_cons_succ]
              refine AnyH.take (i := 5) (d := some 138) (v := ?_) (by kernel_rfl) rfl rfl HF (fun _ _ _ h => h) (.inl ⟨by rfl, ?_⟩) (by first | assumption | rfl) ?_
              rotate_left
              · intro w hS; try subst hS
                go_simp; try with_reducible rfl
              try simp only [Act.put, List.setIfInBounds_toArray, List.set_cons_zero, List.set_cons_succ]
              refine AnyH.take (i := 7) (d := some 140) (v := ?_) (by kernel_rfl) rfl rfl HF (fun _ _ _ h => h) (.inl ⟨by rfl, ?_⟩) (by first | assumption | rfl) ?_
              rotate_left
              · intro w hS; try subst hS
                go_simp; try with_reducible rfl
              try simp only [Act.put, List.setIfInBounds_toArray, List.set_cons_zero, List.set_cons_succ]
              refine AnyH.take (i := 10) (d := some 143) (v := ?_) (by kernel_rfl) rfl rfl HF (fun _ _ _ h => h) (.inl ⟨by rfl, ?_⟩) (by first | assumption | rfl) ?_
              rotate_left
              · intro w hS; try subst hS
                go_simp; try with_reducible rfl
              try simp only [Act.put, List.setIfInBounds_toArray, List.set_cons_zero, List.set_cons_succ]
              refine AnyH.take (i := 12) (d := some 145) (v := ?_) (by kernel_rfl) rfl rfl HF (fun _ _ _ h => h) (.inl ⟨by rfl, ?_⟩) (by first | assumption | rfl) ?_
              rotate_left
              · intro w hS; try subst hS
                go_simp; try with_reducible rfl
              try simp only [Act.put, List.setIfInBounds_toArray, List.set_cons_zero, List.set_cons_succ]
              refine AnyH.floatBL (S1 := SMd n0 (.slice (some ⟨gi, 0, none⟩) n ic) (.slice (some ⟨gl, 0, none⟩) n lc) (.slice (some ⟨gt, 0, none⟩) n tc) ids ls T wq) [1, 3, 4, 6, 8, 9, 11, 13, 14, 15] 5
                (fun x => match x with | 4 => [1, 3] | 9 => [1, 3, 4, 6, 8] | 14 => [1, 3, 4, 6, 8, 9, 11, 13] | 15 => [1, 3, 4, 6, 11] | _ => [])
                (fun x => match x with | 4 => [1, 3] | 9 => [6, 8] | 14 => [11, 13] | _ => [])
                (fun x => match x with | 1 => [3, 6, 8, 11, 13] | 3 => [1, 6, 8, 11, 13] | 4 => [6, 8, 11, 13] | 6 => [1, 3, 4, 8, 11, 13] | 8 => [1, 3, 4, 6, 11, 13, 15] | 9 => [4, 11, 13, 15] | 11 => [1, 3, 4, 6, 8, 9, 13] | 13 => [1, 3, 4, 6, 8, 9, 11, 15] | 14 => [4, 9, 15] | 15 => [4, 6, 8, 9, 11, 13, 14] | _ => [])
                (fun x => match x with | 1 => 134 | 3 => 136 | 4 => 137 | 6 => 139 | 8 => 141 | 9 => 142 | 11 => 144 | 13 => 146 | 14 => 147 | _ => 148) (fun x => x == 4 || x == 9 || x == 14 || x == 15)
                (fun x => PPm n0 (.slice (some ⟨gi, 0, none⟩) n ic) (.slice (some ⟨gl, 0, none⟩) n lc) (.slice (some ⟨gt, 0, none⟩) n tc) ids id ls ln T 0 (ZB n0 (none, 0, 0) (M.txt E1 id)) (.pointer (some ⟨gm, 1, none⟩)) ((fun x => match x with | 1 => 0 | 3 => 3 | 4 => 4 | 6 => 1 | 8 => 5 | 9 => 6 | 11 => 2 | 13 => 8 | 14 => 9 | 15 => 10 | _ => 11) x)) (fun x => FRm ((fun x => match x with | 1 => 0 | 3 => 3 | 4 => 4 | 6 => 1 | 8 => 5 | 9 => 6 | 11 => 2 | 13 => 8 | 14 => 9 | 15 => 10 | _ => 11) x)) ?fok ?dok ?mok (by kernel_rfl) HF (fun w h => KpL.cells h.1 _ (by decide) _ _ _ HSP.out) HSQ.out ?mono ?step ?tail
              case fok => kernel_rfl
              case dok => kernel_rfl
              case mok => kernel_rfl
              case mono =>
                intro x hx i hi v w w' hP hR
                simp only [List.mem_cons, List.not_mem_nil, or_false] at hx
                rcases hx with rfl | rfl | rfl | rfl | rfl | rfl | rfl | rfl | rfl | rfl
                · exact PPm.keep ZK.out hP (fun t ht => KeepT.below hR)
                · exact PPm.keep ZK.out hP (fun t ht => KeepT.below hR)
                · simp only [List.mem_cons, List.not_mem_nil, or_false] at hi
                  rcases hi with rfl | rfl | rfl | rfl
                  all_goals
                    have hR' : ∀ t, t ≠ 31 → KeepT t w w' := hR
                    exact PPm.keep ZK.out hP (fun t ht => hR' t (fun e => by subst e; revert ht; decide))
                · exact PPm.keep ZK.out hP (fun t ht => KeepT.below hR)
                · exact PPm.keep ZK.out hP (fun t ht => KeepT.below hR)
                · simp only [List.mem_cons, List.not_mem_nil, or_false] at hi
                  rcases hi with rfl | rfl | rfl | rfl
                  all_goals
                    have hR' : ∀ t, t ≠ 3 → KeepT t w w' := hR
                    exact PPm.keep ZK.out hP (fun t ht => hR' t (fun e => by subst e; revert ht; decide))
                · exact PPm.keep ZK.out hP (fun t ht => KeepT.below hR)
                · exact PPm.keep ZK.out hP (fun t ht => KeepT.below hR)
                · simp only [List.mem_cons, List.not_mem_nil, or_false] at hi
                  rcases hi with rfl | rfl | rfl
                  all_goals
                    have hR' : ∀ t, t ≠ 32 → KeepT t w w' := hR
                    exact PPm.keep ZK.out hP (fun t ht => hR' t (fun e => by subst e; revert ht; decide))
                · exact PPm.keep ZK.out hP (fun t ht => KeepT.below hR)
              case step =>
                intro x hx vs w hS hP K hK
                simp only [List.mem_cons, List.not_mem_nil, or_false] at hx
                rcases hx with rfl | rfl | rfl | rfl | rfl | rfl | rfl | rfl | rfl | rfl
                · obtain ⟨c0, c1, c2, c3⟩ := (HMC.out w hS.1).cells
                  refine StepIn.mk rfl (by rfl) ?_
                  simp only [putL, List.foldl_nil, List.foldl_cons, Act.put, List.setIfInBounds_toArray, List.set_cons_zero, List.set_cons_succ] at hK ⊢
                  go_simp
                  exact hK _ _ hS (Below.refl _ _) rfl
                · refine StepIn.mk rfl (by rfl) ?_
                  simp only [putL, List.foldl_nil, List.foldl_cons, Act.put, List.setIfInBounds_toArray, List.set_cons_zero, List.set_cons_succ] at hK ⊢
                  go_simp
                  exact hK _ _ (hS.below ((Below.refl _ _).alloc (Nat.le_refl _) _)) ((Below.refl _ _).alloc (Nat.le_refl _) _) ⟨_, rfl, SlA.mono (SlA.lit (l := [id]) encI_len rfl (by simp; unfold maxLen; omega)) hS.2.2.2.2⟩
                · have e1 : vs 1 = .slice (some ⟨gi, 0, none⟩) n ic := hP 1 (by simp)
                  obtain ⟨g1, e2, h2⟩ := hP 3 (by simp)
                  rw [e2] at h2
                  obtain ⟨v', w', hrun, hown, hg, hb, hold⟩ := run_catK (l2 := [id]) elemId encI_len encI_one 24 hS.2.1 h2 rfl (HAPP.out.1) hS.2.2.2.2
                  refine StepIn.mk rfl (by rfl) ?_
                  simp only [putL, List.foldl_nil, List.foldl_cons, e1, e2, Act.put, List.setIfInBounds_toArray, List.set_cons_zero, List.set_cons_succ] at hK ⊢
                  simp [execOp, resolve, invoke, builtin, hrun, Result.andThen, Act.eval, Oper.uponIn]
                  exact hK _ _ (hS.own1 hg hold) (fun t ht => keep_own hS.2.1 hg ht) hown
                · obtain ⟨c0, c1, c2, c3⟩ := (HMC.out w hS.1).cells
                  refine StepIn.mk rfl (by rfl) ?_
                  simp only [putL, List.foldl_nil, List.foldl_cons, Act.put, List.setIfInBounds_toArray, List.set_cons_zero, List.set_cons_succ] at hK ⊢
                  go_simp
                  exact hK _ _ hS (Below.refl _ _) rfl
                · refine StepIn.mk rfl (by rfl) ?_
                  simp only [putL, List.foldl_nil, List.foldl_cons, Act.put, List.setIfInBounds_toArray, List.set_cons_zero, List.set_cons_succ] at hK ⊢
                  go_simp
                  exact hK _ _ (hS.below ((Below.refl _ _).alloc (Nat.le_refl _) _)) ((Below.refl _ _).alloc (Nat.le_refl _) _) ⟨_, rfl, SlA.mono (SlA.lit (l := [ln]) encI_len rfl (by simp; unfold maxLen; omega)) hS.2.2.2.2⟩
                · have e1 : vs 6 = .slice (some ⟨gl, 0, none⟩) n lc := hP 6 (by simp)
                  obtain ⟨g1, e2, h2⟩ := hP 8 (by simp)
                  rw [e2] at h2
                  obtain ⟨v', w', hrun, hown, hg, hb, hold⟩ := run_catK (l2 := [ln]) elemIt encI_len encI_one 25 hS.2.2.1 h2 rfl (HAPP.out.2.1) hS.2.2.2.2
                  refine StepIn.mk rfl (by rfl) ?_
                  simp only [putL, List.foldl_nil, List.foldl_cons, e1, e2, Act.put, List.setIfInBounds_toArray, List.set_cons_zero, List.set_cons_succ] at hK ⊢
                  simp [execOp, resolve, invoke, builtin, hrun, Result.andThen, Act.eval, Oper.uponIn]
                  exact hK _ _ (hS.own2 hg hold) (fun t ht => keep_own hS.2.2.1 hg ht) hown
                · obtain ⟨c0, c1, c2, c3⟩ := (HMC.out w hS.1).cells
                  refine StepIn.mk rfl (by rfl) ?_
                  simp only [putL, List.foldl_nil, List.foldl_cons, Act.put, List.setIfInBounds_toArray, List.set_cons_zero, List.set_cons_succ] at hK ⊢
                  go_simp
                  exact hK _ _ hS (Below.refl _ _) rfl
                · refine StepIn.mk rfl (by rfl) ?_
                  simp only [putL, List.foldl_nil, List.foldl_cons, Act.put, List.setIfInBounds_toArray, List.set_cons_zero, List.set_cons_succ] at hK ⊢
                  go_simp
                  exact hK _ _ (hS.below ((Below.refl _ _).alloc (Nat.le_refl _) _)) ((Below.refl _ _).alloc (Nat.le_refl _) _) ⟨_, (none, 0, 0), rfl, SlA.mono (SlA.lit (l := [((none, 0, 0) : Slc)]) encS_len rfl (by simp; unfold maxLen; omega)) hS.2.2.2.2, rfl, fun hl => SlA.below (HTX.out w (hS.1.cells _ (by decide)) hl) ((Below.refl _ _).alloc (Nat.le_refl _) _)⟩
                · have e1 : vs 11 = .slice (some ⟨gt, 0, none⟩) n tc := hP 11 (by simp)
                  obtain ⟨g1, u1, e2, h2, hz⟩ := hP 13 (by simp)
                  rw [e2] at h2
                  obtain ⟨v', w', hrun, hown, hg, hb, hold⟩ := run_catK (l2 := [u1]) elemSl encS_len encS_one 26 hS.2.2.2.1 h2 rfl (HAPP.out.2.2 u1) hS.2.2.2.2
                  refine StepIn.mk rfl (by rfl) ?_
                  simp only [putL, List.foldl_nil, List.foldl_cons, e1, e2, Act.put, List.setIfInBounds_toArray, List.set_cons_zero, List.set_cons_succ] at hK ⊢
                  simp [execOp, resolve, invoke, builtin, hrun, Result.andThen, Act.eval, Oper.uponIn]
                  exact hK _ _ (hS.own3 hg hold) (fun t ht => keep_own hS.2.2.2.1 hg ht) ⟨u1, hown, ZK.out _ _ _ hz (keep_own hS.2.2.2.1 hg (by decide))⟩
                · obtain ⟨c0, c1, c2, c3⟩ := (HMC.out w hS.1).cells
                  refine StepIn.mk rfl (by rfl) ?_
                  simp only [putL, List.foldl_nil, List.foldl_cons, Act.put, List.setIfInBounds_toArray, List.set_cons_zero, List.set_cons_succ] at hK ⊢
                  go_simp
                  exact hK _ _ hS (Below.refl _ _) rfl
              case tail =>
                intro vs w hS hP
                have h1 := Lib.hid (show IdW n0 w (vs 4) (ids ++ [id]) from hP 4 (by simp) rfl)
                have h2 := Lib.hid (show ItW n0 w (vs 9) (ls ++ [ln]) from hP 9 (by simp) rfl)
                obtain ⟨u1, h3, hz⟩ := hP 14 (by simp) rfl
                have h10 : vs 15 = .pointer (some ⟨gm, 1, none⟩) := hP 15 (by simp) rfl
                have HT := Lib.hid h3; have HZZ := Lib.hid hz
                have HS := Lib.hid hS
                simp only [putL, List.foldl_nil, List.foldl_cons, h10, Act.put, List.setIfInBounds_toArray, List.set_cons_zero, List.set_cons_succ]
                clear hP h3 hz h10
                generalize vs 4 = x1 at *
                generalize vs 9 = x2 at *
                generalize vs 14 = x3 at *
                obtain ⟨a1, z1, rfl⟩ := h1.out.len
                obtain ⟨a2, z2, rfl⟩ := h2.out.len
                obtain ⟨a3, z3, rfl⟩ := HT.out.len
                rw [List.length_append, List.length_singleton] at h1 h2 HT
                simp only [List.length_append, List.length_singleton]
                obtain ⟨n1, hn1⟩ : ∃ k, ids.length + 1 = k := ⟨_, rfl⟩
                obtain ⟨n2, hn2⟩ : ∃ k, ls.length + 1 = k := ⟨_, rfl⟩
                obtain ⟨n3, hn3⟩ : ∃ k, T.length + 1 = k := ⟨_, rfl⟩
                rw [hn1] at h1 ⊢
                rw [hn2] at h2 ⊢
                rw [hn3] at HT ⊢
                clear hn1 hn2 hn3
                have k0 := HMC.out w hS.1
                obtain ⟨c0, c1, c2, c3⟩ := k0.cells
                have f1 := k0.free 1; have f2 := k0.free 2; have f3 := k0.free 3
                obtain ⟨y1, hy1⟩ : ∃ x, w.setCell ⟨gm, 1, none⟩ (.slice a1 n1 z1) = x := ⟨_, rfl⟩
                have k1 : McC y1 gm B (.slice a1 n1 z1) (.slice (some ⟨gl, 0, none⟩) n lc) (.slice (some ⟨gt, 0, none⟩) n tc) := by rw [← hy1]; unfold McC at k0 ⊢; exact heap_set0 _ k0
                obtain ⟨d0, d1, d2, d3⟩ := k1.cells
                have g1 := k1.free 1; have g2 := k1.free 2; have g3 := k1.free 3
                obtain ⟨y2, hy2⟩ : ∃ x, y1.setCell ⟨gm, 2, none⟩ (.slice a2 n2 z2) = x := ⟨_, rfl⟩
                have k2 : McC y2 gm B (.slice a1 n1 z1) (.slice a2 n2 z2) (.slice (some ⟨gt, 0, none⟩) n tc) := by rw [← hy2]; unfold McC at k1 ⊢; exact heap_set0 _ k1
                obtain ⟨e0, e1, e2, e3⟩ := k2.cells
                have i1 := k2.free 1; have i2 := k2.free 2; have i3 := k2.free 3
                obtain ⟨y3, hy3⟩ : ∃ x, y2.setCell ⟨gm, 3, none⟩ (.slice a3 n3 z3) = x := ⟨_, rfl⟩
                have k3 : McC y3 gm B (.slice a1 n1 z1) (.slice a2 n2 z2) (.slice a3 n3 z3) := by rw [← hy3]; unfold McC at k2 ⊢; exact heap_set0 _ k2
                have p0 : SpB w gs s := KpL.cells hS.1 _ (by decide) _ _ _ HSP.out
                have p1 : SpB y1 gs s := by rw [← hy1]; exact set_other HGS.out.2 p0
                have p2 : SpB y2 gs s := by rw [← hy2]; exact set_other HGS.out.2 p1
                have p3 : SpB y3 gs s := by rw [← hy3]; exact set_other HGS.out.2 p2
                have HY : Hid (McC y3 gm B (.slice a1 n1 z1) (.slice a2 n2 z2) (.slice a3 n3 z3) ∧ (∀ t, t ≠ 28 → KeepT t w y3) ∧ (∀ D : World, KpL MdT n0 D w → StAt n0 D B 1048576 E1 → StAt n0 y3 B 1048576 E1) ∧ MzC y3 n0 ∧ Below n0 wq y3) := Lib.hid (by
                  have kt : ∀ t, t ≠ 28 → KeepT t w y3 := fun t ht => by
                    rw [← hy3, ← hy2, ← hy1]
                    rw [← hy2, ← hy1] at k2
                    rw [← hy1] at k1
                    exact ((KeepT.setCell (a := ⟨gm, 1, none⟩) k0 (Ne.symm ht)).trans (KeepT.setCell (a := ⟨gm, 2, none⟩) k1 (Ne.symm ht))).trans (KeepT.setCell (a := ⟨gm, 3, none⟩) k2 (Ne.symm ht))
                  refine ⟨k3, kt, fun D hD hst => ?_, ?_, ?_⟩
                  · rw [← hy3, ← hy2, ← hy1]
                    rw [← hy2, ← hy1] at k2
                    rw [← hy1] at k1
                    exact (((hst.kpl hD (by decide) (by decide)).set k0 (by decide) (by decide) _).set k1 (by decide) (by decide) _).set k2 (by decide) (by decide) _
                  · have q0 : MzC w n0 := KpL.cells hS.1 _ (by decide) _ _ _ HMZ.out
                    rw [← hy3, ← hy2, ← hy1]
                    exact set_other HGS.out.1 (set_other HGS.out.1 (set_other HGS.out.1 q0))
                  · rw [← hy3, ← hy2, ← hy1]
                    exact ((hS.1.below.setCell (p := ⟨gm, 1, none⟩) HGM.out _).setCell (p := ⟨gm, 2, none⟩) HGM.out _).setCell (p := ⟨gm, 3, none⟩) HGM.out _)
                clear hS k0 k1 k2 k3 p0
                refine AnyH.one (i := 16) (by kernel_rfl) (by kernel_rfl) rfl HF (by rfl) (fun K hK => ?_)
                go_simp
                refine hK _ _ p1 ?_
                clear hK K
                try simp only [Act.put, List.setIfInBounds_toArray, List.set_cons_zero, List.set_cons_succ]
                refine AnyH.take (i := 17) (d := some 149) (v := ?_) (by kernel_rfl) rfl rfl HF (fun _ _ _ h => h) (.inl ⟨by rfl, ?_⟩) (by first | assumption | rfl) ?_
                rotate_left
                · intro w hS; try subst hS
                  go_simp; try with_reducible rfl
                try simp only [Act.put, List.setIfInBounds_toArray, List.set_cons_zero, List.set_cons_succ]
                refine AnyH.one (i := 18) (by kernel_rfl) (by kernel_rfl) rfl HF (by rfl) (fun K hK => ?_)
                go_simp
                refine hK _ _ p2 ?_
                clear hK K
                try simp only [Act.put, List.setIfInBounds_toArray, List.set_cons_zero, List.set_cons_succ]
                refine AnyH.take (i := 19) (d := some 150) (v := ?_) (by kernel_rfl) rfl rfl HF (fun _ _ _ h => h) (.inl ⟨by rfl, ?_⟩) (by first | assumption | rfl) ?_
                rotate_left
                · intro w hS; try subst hS
                  go_simp; try with_reducible rfl
                try simp only [Act.put, List.setIfInBounds_toArray, List.set_cons_zero, List.set_cons_succ]
                refine AnyH.one (i := 20) (by kernel_rfl) (by kernel_rfl) rfl HF (by rfl) (fun K hK => ?_)
                go_simp
                refine hK _ _ p3 ?_
                clear hK K
                try simp only [Act.put, List.setIfInBounds_toArray, List.set_cons_zero, List.set_cons_succ]
                refine AnyH.done (by kernel_rfl) ?_
                clear c0 c1 c2 c3 f1 f2 f3 d0 d1 d2 d3 g1 g2 g3 e0 e1 e2 e3 i1 i2 i3 hy1 hy2 hy3 p1 p2 p3
                go_wp2_with fail
                go_roundw
                case rel => exact ⟨i + 1, E1, ids ++ [id], T ++ [u1], by go_num, by have := HI.out; omega, by have := HI.out; omega, HY.out.2.2.1 wq HS.out.1 HSTQ.out, HWF1.out, by have := HEL.out; omega, ⟨_, _, _, HY.out.1, SlA.keep h1.out (HY.out.2.1 _ (by decide)), by
                  rw [lnF_snoc, HLN.out.1, HLN.out.2]
                  exact SlA.keep h2.out (HY.out.2.1 _ (by decide)), SlA.keep HT.out (HY.out.2.1 _ (by decide)), MdOk.snoc (HMO.out y3 (((HS.out.1.cells _ (by decide))).trans (HY.out.2.1 _ (by decide)))) HID.out.1 HID.out.2 (fun hl => ZL.out y3 u1 (ZK.out _ _ _ HZZ.out (HY.out.2.1 _ (by decide))) hl)⟩, by rw [List.length_append, List.length_singleton]; have := HIL.out; omega, HY.out.2.2.2.1, HBQ.out.trans HY.out.2.2.2.2, Nat.le_trans HNQ.out HY.out.2.2.2.2.size⟩
                case measure => have := HI.out; simp [intOf]; omega
        all_goals
          rw [hj] at x0
          have HLT := Lib.hid (letter_any HST.out s.letter HSL.out.1 (by have := HE0.out; have := HI.out; omega) (by have := HE0.out; have := HI.out; omega))
          have HBL := Lib.hid (let_bal HWD.out HSL.out.1)
          obtain ⟨E1, hE1⟩ : ∃ x, (addF E (letE s.letter)).1 = x := ⟨_, rfl⟩
          obtain ⟨id, hid⟩ : ∃ x, (addF E (letE s.letter)).2 = x := ⟨_, rfl⟩
          rw [hE1, hid] at HLT HBL
          clear hE1 hid
          go_wp2_with fail
          clear x0 x1 x2 x3 c0'
          refine HLT.out.mono ?_
          rintro e w3 ⟨rfl, s3, b3, kt3⟩
          obtain ⟨wq, hwq⟩ : ∃ w, w3.drew = w := ⟨_, rfl⟩
          have D : Below w3.heap.size w3 wq := by rw [← hwq]; exact (Below.refl _ _).drew
          have kq : ∀ t, t ≠ 116 → t ≠ 122 → KeepT t w2 wq := fun t h1 h2 k cs fz e => below_block D (kt3 t h1 h2 k cs fz e)
          obtain ⟨f1, x1, l1, bl1⟩ := HBL.out
          have hnq : n0 ≤ wq.heap.size := Nat.le_trans (Nat.le_trans HN2.out b3.size) D.size
          have HSP : Hid (SpB wq gs s) := Lib.hid (kq _ (by decide) (by decide) _ _ _ KS2.out)
          have HMC : Hid (∀ w, KpL MdT n0 wq w → McC w gm B (.slice ia n ic) (.slice la n lc) (.slice ta n tc)) := Lib.hid (fun w hw => hw.cells _ (by decide) _ _ _ (kq _ (by decide) (by decide) _ _ _ KM2.out))
          have HMZ : Hid (MzC wq n0) := Lib.hid (kq _ (by decide) (by decide) _ _ _ KZ2.out)
          have HSQ : Hid (SMd n0 (.slice ia n ic) (.slice la n lc) (.slice ta n tc) ids ls T wq wq) := Lib.hid ⟨KpL.of (Below.refl _ _) hnq, SlA.keep HIV.out (kq _ (by decide) (by decide)), SlA.keep HLV.out (kq _ (by decide) (by decide)), SlA.keep HTV.out (kq _ (by decide) (by decide)), hnq⟩
          have ZK : Hid (∀ u w w', ZA n0 s.letter u w → KeepT 5 w w' → ZA n0 s.letter u w') := Lib.hid (fun u w w' ⟨g, e, k⟩ hk => ⟨g, e, SlA.keep k hk⟩)
          have ZL : Hid (∀ y u, ZA n0 s.letter u y → (M.txt E1 id).length ≤ 4096 → Bys n0 y (slcV u) (M.txt E1 id)) := Lib.hid (fun y u ⟨g, e, k⟩ _ => by rw [bl1.txt]; exact k)
          have HMO : Hid (∀ y, KeepT 5 wq y → MdOk n0 y E1 ids T) := Lib.hid (fun y hy => (HOK.out.keep ((kq _ (by decide) (by decide)).trans hy)).ext x1)
          have HID : Hid (0 < id ∧ Bal0 E1 id (M.txt E1 id)) := Lib.hid ⟨bl1.pos, bl1.le, rfl, bl1.even⟩
          have HLN : Hid (lnF E1 ids = ls ∧ (M.txt E1 id).length = 1) := Lib.hid ⟨by rw [lnF_ext x1 (fun i hi => (HOK.out.bal i hi).2.le)]; exact HLS.out, by rw [bl1.txt]; rfl⟩
          have HWF1 := Lib.hid f1
          have HEL : Hid (E1.length ≤ 260 * (i + 1)) := Lib.hid (by have := HE0.out; omega)
          have HBQ : Hid (Below n0 W wq) := Lib.hid ((HB2.out.trans b3).trans (D.mono (Nat.le_trans HN2.out b3.size)))
          have HNQ := Lib.hid hnq
          have HSTQ : Hid (StAt n0 wq B 1048576 E1) := Lib.hid (s3.below D)
          have q1 : ∀ w, SpB w gs s → w.cell? ⟨gs, 1, none⟩ = some (.int .u8 s.letter) := fun w hw => hw.cells.2.1
          clear s3 b3 kt3 D kq f1 x1 l1 bl1 hnq HLT
          go_wp2_with fail
          refine wp_region_anyH (fun w => SpB w gs s) (by kernel_rfl) ?_
          rw [hwq]
          clear hwq
          refine AnyH.take (i := 0) (d := some 57) (v := ?_) (by kernel_rfl) rfl rfl HF (fun _ _ _ h => h) (.inl ⟨by rfl, ?_⟩) (by first | assumption | rfl) ?_
          rotate_left
          · intro w hS; try subst hS
            go_simp; try with_reducible rfl
          try simp only [Act.put, List.setIfInBounds_toArray, List.set_cons_zero, List.set_cons_succ]
          refine AnyH.take (i := 2) (d := some 59) (v := ?_) (by kernel_rfl) rfl rfl HF (fun _ _ _ h => h) (.inl ⟨by rfl, ?_⟩) (by first | assumption | rfl) ?_
          rotate_left
          · intro w hS; try subst hS
            go_simp; try with_reducible rfl
          try simp only [Act.put, List.setIfInBounds_toArray, List.set_cons_zero, List.set_cons_succ]
          refine AnyH.take (i := 5) (d := some 62) (v := ?_) (by kernel_rfl) rfl rfl HF (fun _ _ _ h => h) (.inl ⟨by rfl, ?_⟩) (by first | assumption | rfl) ?_
          rotate_left
          · intro w hS; try subst hS
            go_simp; try with_reducible rfl
          try simp only [Act.put, List.setIfInBounds_toArray, List.set_cons_zero, List.set_cons_succ]
          refine AnyH.take (i := 9) (d := some 66) (v := ?_) (by kernel_rfl) rfl rfl HF (fun _ _ _ h => h) (.inl ⟨by rfl, ?_⟩) (by first | assumption | rfl) ?_
          rotate_left
          · intro w hS; try subst hS
            go_simp; try with_reducible rfl
          try simp only [Act.put, List.setIfInBounds_toArray, List.set_cons_zero, List.set_cons_succ]
          refine AnyH.take (i := 11) (d := some 68) (v := ?_) (by kernel_rfl) rfl rfl HF (fun _ _ _ h => h) (.inl ⟨by rfl, ?_⟩) (by first | assumption | rfl) ?_
          rotate_left
          · intro w hS; try subst hS
            go_simp; try with_reducible rfl
          try simp only [Act.put, List.setIfInBounds_toArray, List.set_cons_zero, List.set_cons_succ]
          refine AnyH.take (i := 12) (d := some 69) (v := ?_) (by kernel_rfl) rfl rfl HF (fun _ _ _ h => h) (.inl ⟨by rfl, ?_⟩) (by first | assumption | rfl) ?_
          rotate_left
          · intro w hS; try subst hS
            go_simp; try with_reducible rfl
          try simp only [Act.put, List.setIfInBounds_toArray, List.set_cons_zero, List.set_cons_succ]
          refine AnyH.floatBL (S1 := SMd n0 (.slice ia n ic) (.slice la n lc) (.slice ta n tc) ids ls T wq) [1, 3, 4, 6, 7, 8, 10, 13, 14, 15, 16] 5
            (fun x => match x with | 4 => [1, 3] | 8 => [1, 3, 4, 6, 7] | 14 => [13] | 15 => [1, 3, 4, 6, 7, 8, 10, 13, 14] | 16 => [1, 3, 4, 6, 10] | _ => [])
            (fun x => match x with | 4 => [1, 3] | 8 => [6, 7] | 15 => [10, 14] | 14 => [13] | _ => [])
            (fun x => match x with | 1 => [3, 6, 7, 10, 13, 14] | 3 => [1, 6, 7, 10, 13, 14] | 4 => [6, 7, 10, 13, 14] | 6 => [1, 3, 4, 7, 10, 13, 14] | 7 => [1, 3, 4, 6, 10, 13, 14, 16] | 8 => [4, 10, 13, 14, 16] | 10 => [1, 3, 4, 6, 7, 8, 13, 14] | 13 => [1, 3, 4, 6, 7, 8, 10, 16] | 14 => [1, 3, 4, 6, 7, 8, 10, 16] | 15 => [4, 8, 16] | 16 => [4, 6, 7, 8, 10, 13, 14, 15] | _ => [])
            (fun x => match x with | 1 => 58 | 3 => 60 | 4 => 61 | 6 => 63 | 7 => 64 | 8 => 65 | 10 => 67 | 13 => 70 | 14 => 71 | 15 => 72 | _ => 73) (fun x => x == 4 || x == 8 || x == 15 || x == 16)
            (fun x => PPm n0 (.slice ia n ic) (.slice la n lc) (.slice ta n tc) ids id ls 1 T s.letter (ZA n0 s.letter) (.pointer (some ⟨gm, 1, none⟩)) ((fun x => match x with | 1 => 0 | 3 => 3 | 4 => 4 | 6 => 1 | 7 => 5 | 8 => 6 | 10 => 2 | 13 => 7 | 14 => 8 | 15 => 9 | 16 => 10 | _ => 11) x)) (fun x => FRm ((fun x => match x with | 1 => 0 | 3 => 3 | 4 => 4 | 6 => 1 | 7 => 5 | 8 => 6 | 10 => 2 | 13 => 7 | 14 => 8 | 15 => 9 | 16 => 10 | _ => 11) x)) ?fok ?dok ?mok (by kernel_rfl) HF (fun w h => KpL.cells h.1 _ (by decide) _ _ _ HSP.out) HSQ.out ?mono ?step ?tail
          case fok => kernel_rfl
          case dok => kernel_rfl
          case mok => kernel_rfl
          case mono =>
            intro x hx i hi v w w' hP hR
            simp only [List.mem_cons, List.not_mem_nil, or_false] at hx
            rcases hx with rfl | rfl | rfl | rfl | rfl | rfl | rfl | rfl | rfl | rfl | rfl
            · exact PPm.keep ZK.out hP (fun t ht => KeepT.below hR)
            · exact PPm.keep ZK.out hP (fun t ht => KeepT.below hR)
            · simp only [List.mem_cons, List.not_mem_nil, or_false] at hi
              rcases hi with rfl | rfl | rfl | rfl | rfl
              all_goals
                have hR' : ∀ t, t ≠ 31 → KeepT t w w' := hR
                exact PPm.keep ZK.out hP (fun t ht => hR' t (fun e => by subst e; revert ht; decide))
            · exact PPm.keep ZK.out hP (fun t ht => KeepT.below hR)
            · exact PPm.keep ZK.out hP (fun t ht => KeepT.below hR)
            · simp only [List.mem_cons, List.not_mem_nil, or_false] at hi
              rcases hi with rfl | rfl | rfl | rfl | rfl
              all_goals
                have hR' : ∀ t, t ≠ 3 → KeepT t w w' := hR
                exact PPm.keep ZK.out hP (fun t ht => hR' t (fun e => by subst e; revert ht; decide))
            · exact PPm.keep ZK.out hP (fun t ht => KeepT.below hR)
            · exact PPm.keep ZK.out hP (fun t ht => KeepT.below hR)
            · exact PPm.keep ZK.out hP (fun t ht => KeepT.below hR)
            · simp only [List.mem_cons, List.not_mem_nil, or_false] at hi
              rcases hi with rfl | rfl | rfl
              all_goals
                have hR' : ∀ t, t ≠ 32 → KeepT t w w' := hR
                exact PPm.keep ZK.out hP (fun t ht => hR' t (fun e => by subst e; revert ht; decide))
            · exact PPm.keep ZK.out hP (fun t ht => KeepT.below hR)
          case step =>
            intro x hx vs w hS hP K hK
            simp only [List.mem_cons, List.not_mem_nil, or_false] at hx
            rcases hx with rfl | rfl | rfl | rfl | rfl | rfl | rfl | rfl | rfl | rfl | rfl
            · obtain ⟨c0, c1, c2, c3⟩ := (HMC.out w hS.1).cells
              refine StepIn.mk rfl (by rfl) ?_
              simp only [putL, List.foldl_nil, List.foldl_cons, Act.put, List.setIfInBounds_toArray, List.set_cons_zero, List.set_cons_succ] at hK ⊢
              go_simp
              exact hK _ _ hS (Below.refl _ _) rfl
            · refine StepIn.mk rfl (by rfl) ?_
              simp only [putL, List.foldl_nil, List.foldl_cons, Act.put, List.setIfInBounds_toArray, List.set_cons_zero, List.set_cons_succ] at hK ⊢
              go_simp
              exact hK _ _ (hS.below ((Below.refl _ _).alloc (Nat.le_refl _) _)) ((Below.refl _ _).alloc (Nat.le_refl _) _) ⟨_, rfl, SlA.mono (SlA.lit (l := [id]) encI_len rfl (by simp; unfold maxLen; omega)) hS.2.2.2.2⟩
            · have e1 : vs 1 = .slice ia n ic := hP 1 (by simp)
              obtain ⟨g1, e2, h2⟩ := hP 3 (by simp)
              rw [e2] at h2
              obtain ⟨v', w', hrun, hown, hg, hb, hold⟩ := run_catK (l2 := [id]) elemId encI_len encI_one 24 hS.2.1 h2 rfl (HAPP.out.1) hS.2.2.2.2
              refine StepIn.mk rfl (by rfl) ?_
              simp only [putL, List.foldl_nil, List.foldl_cons, e1, e2, Act.put, List.setIfInBounds_toArray, List.set_cons_zero, List.set_cons_succ] at hK ⊢
              simp [execOp, resolve, invoke, builtin, hrun, Result.andThen, Act.eval, Oper.uponIn]
              exact hK _ _ (hS.own1 hg hold) (fun t ht => keep_own hS.2.1 hg ht) hown
            · obtain ⟨c0, c1, c2, c3⟩ := (HMC.out w hS.1).cells
              refine StepIn.mk rfl (by rfl) ?_
              simp only [putL, List.foldl_nil, List.foldl_cons, Act.put, List.setIfInBounds_toArray, List.set_cons_zero, List.set_cons_succ] at hK ⊢
              go_simp
              exact hK _ _ hS (Below.refl _ _) rfl
            · refine StepIn.mk rfl (by rfl) ?_
              simp only [putL, List.foldl_nil, List.foldl_cons, Act.put, List.setIfInBounds_toArray, List.set_cons_zero, List.set_cons_succ] at hK ⊢
              go_simp
              exact hK _ _ (hS.below ((Below.refl _ _).alloc (Nat.le_refl _) _)) ((Below.refl _ _).alloc (Nat.le_refl _) _) ⟨_, rfl, SlA.mono (SlA.lit (l := [1]) encI_len rfl (by simp; unfold maxLen; omega)) hS.2.2.2.2⟩
            · have e1 : vs 6 = .slice la n lc := hP 6 (by simp)
              obtain ⟨g1, e2, h2⟩ := hP 7 (by simp)
              rw [e2] at h2
              obtain ⟨v', w', hrun, hown, hg, hb, hold⟩ := run_catK (l2 := [1]) elemIt encI_len encI_one 25 hS.2.2.1 h2 rfl (HAPP.out.2.1) hS.2.2.2.2
              refine StepIn.mk rfl (by rfl) ?_
              simp only [putL, List.foldl_nil, List.foldl_cons, e1, e2, Act.put, List.setIfInBounds_toArray, List.set_cons_zero, List.set_cons_succ] at hK ⊢
              simp [execOp, resolve, invoke, builtin, hrun, Result.andThen, Act.eval, Oper.uponIn]
              exact hK _ _ (hS.own2 hg hold) (fun t ht => keep_own hS.2.2.1 hg ht) hown
            · obtain ⟨c0, c1, c2, c3⟩ := (HMC.out w hS.1).cells
              refine StepIn.mk rfl (by rfl) ?_
              simp only [putL, List.foldl_nil, List.foldl_cons, Act.put, List.setIfInBounds_toArray, List.set_cons_zero, List.set_cons_succ] at hK ⊢
              go_simp
              exact hK _ _ hS (Below.refl _ _) rfl
            · refine StepIn.mk rfl (by rfl) ?_
              simp only [putL, List.foldl_nil, List.foldl_cons, Act.put, List.setIfInBounds_toArray, List.set_cons_zero, List.set_cons_succ] at hK ⊢
              go_simp
              exact hK _ _ (hS.below ((Below.refl _ _).alloc (Nat.le_refl _) _)) ((Below.refl _ _).alloc (Nat.le_refl _) _) ⟨_, rfl, SlA.mono (SlA.lit (l := [s.letter]) encB_len rfl (by simp; unfold maxLen; omega)) hS.2.2.2.2⟩
            · obtain ⟨g7, e7, h7⟩ := hP 13 (by simp)
              rw [e7] at h7
              refine StepIn.mk rfl (by rfl) ?_
              simp only [putL, List.foldl_nil, List.foldl_cons, e7, Act.put, List.setIfInBounds_toArray, List.set_cons_zero, List.set_cons_succ] at hK ⊢
              go_simp
              exact hK _ _ (hS.below ((Below.refl _ _).alloc (Nat.le_refl _) _)) ((Below.refl _ _).alloc (Nat.le_refl _) _) ⟨_, (some ⟨g7, 0, none⟩, 1, 1), rfl, SlA.mono (SlA.lit (l := [((some ⟨g7, 0, none⟩, 1, 1) : Slc)]) encS_len rfl (by simp; unfold maxLen; omega)) hS.2.2.2.2, g7, rfl, SlA.below h7 ((Below.refl _ _).alloc (Nat.le_refl _) _)⟩
            · have e1 : vs 10 = .slice ta n tc := hP 10 (by simp)
              obtain ⟨g1, u1, e2, h2, hz⟩ := hP 14 (by simp)
              rw [e2] at h2
              obtain ⟨v', w', hrun, hown, hg, hb, hold⟩ := run_catK (l2 := [u1]) elemSl encS_len encS_one 26 hS.2.2.2.1 h2 rfl (HAPP.out.2.2 u1) hS.2.2.2.2
              refine StepIn.mk rfl (by rfl) ?_
              simp only [putL, List.foldl_nil, List.foldl_cons, e1, e2, Act.put, List.setIfInBounds_toArray, List.set_cons_zero, List.set_cons_succ] at hK ⊢
              simp [execOp, resolve, invoke, builtin, hrun, Result.andThen, Act.eval, Oper.uponIn]
              exact hK _ _ (hS.own3 hg hold) (fun t ht => keep_own hS.2.2.2.1 hg ht) ⟨u1, hown, ZK.out _ _ _ hz (keep_own hS.2.2.2.1 hg (by decide))⟩
            · obtain ⟨c0, c1, c2, c3⟩ := (HMC.out w hS.1).cells
              refine StepIn.mk rfl (by rfl) ?_
              simp only [putL, List.foldl_nil, List.foldl_cons, Act.put, List.setIfInBounds_toArray, List.set_cons_zero, List.set_cons_succ] at hK ⊢
              go_simp
              exact hK _ _ hS (Below.refl _ _) rfl
          case tail =>
            intro vs w hS hP
            have h1 := Lib.hid (show IdW n0 w (vs 4) (ids ++ [id]) from hP 4 (by simp) rfl)
            have h2 := Lib.hid (show ItW n0 w (vs 8) (ls ++ [1]) from hP 8 (by simp) rfl)
            obtain ⟨u1, h3, hz⟩ := hP 15 (by simp) rfl
            have h10 : vs 16 = .pointer (some ⟨gm, 1, none⟩) := hP 16 (by simp) rfl
            have HT := Lib.hid h3; have HZZ := Lib.hid hz
            have HS := Lib.hid hS
            simp only [putL, List.foldl_nil, List.foldl_cons, h10, Act.put, List.setIfInBounds_toArray, List.set_cons_zero, List.set_cons_succ]
            clear hP h3 hz h10
            generalize vs 4 = x1 at *
            generalize vs 8 = x2 at *
            generalize vs 15 = x3 at *
            obtain ⟨a1, z1, rfl⟩ := h1.out.len
            obtain ⟨a2, z2, rfl⟩ := h2.out.len
            obtain ⟨a3, z3, rfl⟩ := HT.out.len
            rw [List.length_append, List.length_singleton] at h1 h2 HT
            simp only [List.length_append, List.length_singleton]
            obtain ⟨n1, hn1⟩ : ∃ k, ids.length + 1 = k := ⟨_, rfl⟩
            obtain ⟨n2, hn2⟩ : ∃ k, ls.length + 1 = k := ⟨_, rfl⟩
            obtain ⟨n3, hn3⟩ : ∃ k, T.length + 1 = k := ⟨_, rfl⟩
            rw [hn1] at h1 ⊢
            rw [hn2] at h2 ⊢
            rw [hn3] at HT ⊢
            clear hn1 hn2 hn3
            have k0 := HMC.out w hS.1
            obtain ⟨c0, c1, c2, c3⟩ := k0.cells
            have f1 := k0.free 1; have f2 := k0.free 2; have f3 := k0.free 3
            obtain ⟨y1, hy1⟩ : ∃ x, w.setCell ⟨gm, 1, none⟩ (.slice a1 n1 z1) = x := ⟨_, rfl⟩
            have k1 : McC y1 gm B (.slice a1 n1 z1) (.slice la n lc) (.slice ta n tc) := by rw [← hy1]; unfold McC at k0 ⊢; exact heap_set0 _ k0
            obtain ⟨d0, d1, d2, d3⟩ := k1.cells
            have g1 := k1.free 1; have g2 := k1.free 2; have g3 := k1.free 3
            obtain ⟨y2, hy2⟩ : ∃ x, y1.setCell ⟨gm, 2, none⟩ (.slice a2 n2 z2) = x := ⟨_, rfl⟩
            have k2 : McC y2 gm B (.slice a1 n1 z1) (.slice a2 n2 z2) (.slice ta n tc) := by rw [← hy2]; unfold McC at k1 ⊢; exact heap_set0 _ k1
            obtain ⟨e0, e1, e2, e3⟩ := k2.cells
            have i1 := k2.free 1; have i2 := k2.free 2; have i3 := k2.free 3
            obtain ⟨y3, hy3⟩ : ∃ x, y2.setCell ⟨gm, 3, none⟩ (.slice a3 n3 z3) = x := ⟨_, rfl⟩
            have k3 : McC y3 gm B (.slice a1 n1 z1) (.slice a2 n2 z2) (.slice a3 n3 z3) := by rw [← hy3]; unfold McC at k2 ⊢; exact heap_set0 _ k2
            have p0 : SpB w gs s := KpL.cells hS.1 _ (by decide) _ _ _ HSP.out
            have p1 : SpB y1 gs s := by rw [← hy1]; exact set_other HGS.out.2 p0
            have p2 : SpB y2 gs s := by rw [← hy2]; exact set_other HGS.out.2 p1
            have p3 : SpB y3 gs s := by rw [← hy3]; exact set_other HGS.out.2 p2
            have HY : Hid (McC y3 gm B (.slice a1 n1 z1) (.slice a2 n2 z2) (.slice a3 n3 z3) ∧ (∀ t, t ≠ 28 → KeepT t w y3) ∧ (∀ D : World, KpL MdT n0 D w → StAt n0 D B 1048576 E1 → StAt n0 y3 B 1048576 E1) ∧ MzC y3 n0 ∧ Below n0 wq y3) := Lib.hid (by
              have kt : ∀ t, t ≠ 28 → KeepT t w y3 := fun t ht => by
                rw [← hy3, ← hy2, ← hy1]
                rw [← hy2, ← hy1] at k2
                rw [← hy1] at k1
                exact ((KeepT.setCell (a := ⟨gm, 1, none⟩) k0 (Ne.symm ht)).trans (KeepT.setCell (a := ⟨gm, 2, none⟩) k1 (Ne.symm ht))).trans (KeepT.setCell (a := ⟨gm, 3, none⟩) k2 (Ne.symm ht))
              refine ⟨k3, kt, fun D hD hst => ?_, ?_, ?_⟩
              · rw [← hy3, ← hy2, ← hy1]
                rw [← hy2, ← hy1] at k2
                rw [← hy1] at k1
                exact (((hst.kpl hD (by decide) (by decide)).set k0 (by decide) (by decide) _).set k1 (by decide) (by decide) _).set k2 (by decide) (by decide) _
              · have q0 : MzC w n0 := KpL.cells hS.1 _ (by decide) _ _ _ HMZ.out
                rw [← hy3, ← hy2, ← hy1]
                exact set_other HGS.out.1 (set_other HGS.out.1 (set_other HGS.out.1 q0))
              · rw [← hy3, ← hy2, ← hy1]
                exact ((hS.1.below.setCell (p := ⟨gm, 1, none⟩) HGM.out _).setCell (p := ⟨gm, 2, none⟩) HGM.out _).setCell (p := ⟨gm, 3, none⟩) HGM.out _)
            clear hS k0 k1 k2 k3 p0
            refine AnyH.one (i := 17) (by kernel_rfl) (by kernel_rfl) rfl HF (by rfl) (fun K hK => ?_)
            go_simp
            refine hK _ _ p1 ?_
            clear hK K
            try simp only [Act.put, List.setIfInBounds_toArray, List.set_cons_zero, List.set_cons_succ]
            refine AnyH.take (i := 18) (d := some 74) (v := ?_) (by kernel_rfl) rfl rfl HF (fun _ _ _ h => h) (.inl ⟨by rfl, ?_⟩) (by first | assumption | rfl) ?_
            rotate_left
            · intro w hS; try subst hS
              go_simp; try with_reducible rfl
            try simp only [Act.put, List.setIfInBounds_toArray, List.set_cons_zero, List.set_cons_succ]
            refine AnyH.one (i := 19) (by kernel_rfl) (by kernel_rfl) rfl HF (by rfl) (fun K hK => ?_)
            go_simp
            refine hK _ _ p2 ?_
            clear hK K
            try simp only [Act.put, List.setIfInBounds_toArray, List.set_cons_zero, List.set_cons_succ]
            refine AnyH.take (i := 20) (d := some 75) (v := ?_) (by kernel_rfl) rfl rfl HF (fun _ _ _ h => h) (.inl ⟨by rfl, ?_⟩) (by first | assumption | rfl) ?_
            rotate_left
            · intro w hS; try subst hS
              go_simp; try with_reducible rfl
            try simp only [Act.put, List.setIfInBounds_toArray, List.set_cons_zero, List.set_cons_succ]
            refine AnyH.one (i := 21) (by kernel_rfl) (by kernel_rfl) rfl HF (by rfl) (fun K hK => ?_)
            go_simp
            refine hK _ _ p3 ?_
            clear hK K
            try simp only [Act.put, List.setIfInBounds_toArray, List.set_cons_zero, List.set_cons_succ]
            refine AnyH.done (by kernel_rfl) ?_
            clear c0 c1 c2 c3 f1 f2 f3 d0 d1 d2 d3 g1 g2 g3 e0 e1 e2 e3 i1 i2 i3 hy1 hy2 hy3 p1 p2 p3
            go_wp2_with fail
            go_roundw
            case rel => exact ⟨i + 1, E1, ids ++ [id], T ++ [u1], by go_num, by have := HI.out; omega, by have := HI.out; omega, HY.out.2.2.1 wq HS.out.1 HSTQ.out, HWF1.out, by have := HEL.out; omega, ⟨_, _, _, HY.out.1, SlA.keep h1.out (HY.out.2.1 _ (by decide)), by
              rw [lnF_snoc, HLN.out.1, HLN.out.2]
              exact SlA.keep h2.out (HY.out.2.1 _ (by decide)), SlA.keep HT.out (HY.out.2.1 _ (by decide)), MdOk.snoc (HMO.out y3 (((HS.out.1.cells _ (by decide))).trans (HY.out.2.1 _ (by decide)))) HID.out.1 HID.out.2 (fun hl => ZL.out y3 u1 (ZK.out _ _ _ HZZ.out (HY.out.2.1 _ (by decide))) hl)⟩, by rw [List.length_append, List.length_singleton]; have := HIL.out; omega, HY.out.2.2.2.1, HBQ.out.trans HY.out.2.2.2.2, Nat.le_trans HNQ.out HY.out.2.2.2.2.size⟩
            case measure => have := HI.out; simp [intOf]; omega
      · have h92 : ¬ (i : Int) < 90 := by omega
        obtain ⟨iv, lv, tv, hm, hiv, hlv, htv, hok⟩ := hMd
        obtain ⟨ia, ic, rfl⟩ := hiv.len
        obtain ⟨la, lc, rfl⟩ := hlv.len
        obtain ⟨ta, tc, rfl⟩ := htv.len
        obtain ⟨n1, hn1⟩ : ∃ n, ids.length = n := ⟨_, rfl⟩
        obtain ⟨n2, hn2⟩ : ∃ n, (lnF E ids).length = n := ⟨_, rfl⟩
        obtain ⟨n3, hn3⟩ : ∃ n, T.length = n := ⟨_, rfl⟩
        rw [hn1] at hm hiv
        rw [hn2] at hm hlv
        rw [hn3] at hm htv
        obtain ⟨c0, c1, c2, c3⟩ := hm.cells
        obtain ⟨⟨x0, x1, x2, x3⟩, y0, y1, y2, y3⟩ := MzC.cells hmz
        obtain ⟨wf, hwf⟩ : ∃ w, (((wr.setCell ⟨n0, 0, none⟩ (.pointer (some ⟨B, 0, none⟩))).setCell ⟨n0, 1, none⟩ (.slice ia n1 ic)).setCell ⟨n0, 2, none⟩ (.slice la n2 lc)).setCell ⟨n0, 3, none⟩ (.slice ta n3 tc) = w := ⟨_, rfl⟩
        have q1 := heap_set0 (i := 0) (.pointer (some ⟨B, 0, none⟩)) hmz
        have q2 := heap_set0 (i := 1) (.slice ia n1 ic) q1
        have q3 := heap_set0 (i := 2) (.slice la n2 lc) q2
        have kf : McC wf n0 B (.slice ia n1 ic) (.slice la n2 lc) (.slice ta n3 tc) := by rw [← hwf]; exact heap_set0 _ q3
        obtain ⟨h0, h1, h2, h3⟩ := kf.cells
        have kt : ∀ t, t ≠ 28 → KeepT t wr wf := fun t ht => by
          rw [← hwf]
          exact (((KeepT.setCell (a := ⟨n0, 0, none⟩) hmz (Ne.symm ht)).trans (KeepT.setCell (a := ⟨n0, 1, none⟩) q1 (Ne.symm ht))).trans (KeepT.setCell (a := ⟨n0, 2, none⟩) q2 (Ne.symm ht))).trans (KeepT.setCell (a := ⟨n0, 3, none⟩) q3 (Ne.symm ht))
        have HEND : Hid (StAt n0 wf B 1048576 E ∧ WfD E ∧ E.length ≤ 23400 ∧ ids.length ≤ 90 ∧ IdW n0 wf (.slice ia n1 ic) ids ∧ ItW n0 wf (.slice la n2 lc) (lnF E ids) ∧ SlW n0 wf (.slice ta n3 tc) T ∧ MdOk n0 wf E ids T ∧ Below n0 W wf) := Lib.hid ⟨by
          rw [← hwf]
          exact (((hst.set hmz (by decide) (by decide) _).set q1 (by decide) (by decide) _).set q2 (by decide) (by decide) _).set q3 (by decide) (by decide) _, hwd, by omega, by omega, SlA.keep hiv (kt _ (by decide)), SlA.keep hlv (kt _ (by decide)), SlA.keep htv (kt _ (by decide)), hok.keep (kt _ (by decide)), by
          rw [← hwf]
          exact (((hbw.setCell (p := ⟨n0, 0, none⟩) (Nat.le_refl _) _).setCell (p := ⟨n0, 1, none⟩) (Nat.le_refl _) _).setCell (p := ⟨n0, 2, none⟩) (Nat.le_refl _) _).setCell (p := ⟨n0, 3, none⟩) (Nat.le_refl _) _⟩
        clear hm hn1 hn2 hn3 hiv hlv htv hok q1 q2 q3 kf kt hst hwd hmz hbw hel hil hnr
        go_wp2_with fail
        exact bodyPost_ret (v := .tuple #[.agg #[.pointer (some ⟨B, 0, none⟩), (.slice ia n1 ic), (.slice la n2 lc), (.slice ta n3 tc)], .bool true]) (by simp [results, Try.results12, go_sem, h0, h1, h2, h3]) rfl ⟨B, E, ids, T, _, _, _, rfl, HEND.out⟩
    · have hlt2 : ¬ (i : Int) < (L.length : Int) := by omega
      obtain ⟨iv, lv, tv, hm, hiv, hlv, htv, hok⟩ := hMd
      obtain ⟨ia, ic, rfl⟩ := hiv.len
      obtain ⟨la, lc, rfl⟩ := hlv.len
      obtain ⟨ta, tc, rfl⟩ := htv.len
      obtain ⟨n1, hn1⟩ : ∃ n, ids.length = n := ⟨_, rfl⟩
      obtain ⟨n2, hn2⟩ : ∃ n, (lnF E ids).length = n := ⟨_, rfl⟩
      obtain ⟨n3, hn3⟩ : ∃ n, T.length = n := ⟨_, rfl⟩
      rw [hn1] at hm hiv
      rw [hn2] at hm hlv
      rw [hn3] at hm htv
      obtain ⟨c0, c1, c2, c3⟩ := hm.cells
      obtain ⟨⟨x0, x1, x2, x3⟩, y0, y1, y2, y3⟩ := MzC.cells hmz
      obtain ⟨wf, hwf⟩ : ∃ w, (((wr.setCell ⟨n0, 0, none⟩ (.pointer (some ⟨B, 0, none⟩))).setCell ⟨n0, 1, none⟩ (.slice ia n1 ic)).setCell ⟨n0, 2, none⟩ (.slice la n2 lc)).setCell ⟨n0, 3, none⟩ (.slice ta n3 tc) = w := ⟨_, rfl⟩
      have q1 := heap_set0 (i := 0) (.pointer (some ⟨B, 0, none⟩)) hmz
      have q2 := heap_set0 (i := 1) (.slice ia n1 ic) q1
      have q3 := heap_set0 (i := 2) (.slice la n2 lc) q2
      have kf : McC wf n0 B (.slice ia n1 ic) (.slice la n2 lc) (.slice ta n3 tc) := by rw [← hwf]; exact heap_set0 _ q3
      obtain ⟨h0, h1, h2, h3⟩ := kf.cells
      have kt : ∀ t, t ≠ 28 → KeepT t wr wf := fun t ht => by
        rw [← hwf]
        exact (((KeepT.setCell (a := ⟨n0, 0, none⟩) hmz (Ne.symm ht)).trans (KeepT.setCell (a := ⟨n0, 1, none⟩) q1 (Ne.symm ht))).trans (KeepT.setCell (a := ⟨n0, 2, none⟩) q2 (Ne.symm ht))).trans (KeepT.setCell (a := ⟨n0, 3, none⟩) q3 (Ne.symm ht))
      have HEND : Hid (StAt n0 wf B 1048576 E ∧ WfD E ∧ E.length ≤ 23400 ∧ ids.length ≤ 90 ∧ IdW n0 wf (.slice ia n1 ic) ids ∧ ItW n0 wf (.slice la n2 lc) (lnF E ids) ∧ SlW n0 wf (.slice ta n3 tc) T ∧ MdOk n0 wf E ids T ∧ Below n0 W wf) := Lib.hid ⟨by
        rw [← hwf]
        exact (((hst.set hmz (by decide) (by decide) _).set q1 (by decide) (by decide) _).set q2 (by decide) (by decide) _).set q3 (by decide) (by decide) _, hwd, by omega, by omega, SlA.keep hiv (kt _ (by decide)), SlA.keep hlv (kt _ (by decide)), SlA.keep htv (kt _ (by decide)), hok.keep (kt _ (by decide)), by
        rw [← hwf]
        exact (((hbw.setCell (p := ⟨n0, 0, none⟩) (Nat.le_refl _) _).setCell (p := ⟨n0, 1, none⟩) (Nat.le_refl _) _).setCell (p := ⟨n0, 2, none⟩) (Nat.le_refl _) _).setCell (p := ⟨n0, 3, none⟩) (Nat.le_refl _) _⟩
      clear hm hn1 hn2 hn3 hiv hlv htv hok q1 q2 q3 kf kt hst hwd hmz hbw hel hil hnr
      go_wp2_with fail
      exact bodyPost_ret (v := .tuple #[.agg #[.pointer (some ⟨B, 0, none⟩), (.slice ia n1 ic), (.slice la n2 lc), (.slice ta n3 tc)], .bool true]) (by simp [results, Try.results12, go_sem, h0, h1, h2, h3]) rfl ⟨B, E, ids, T, _, _, _, rfl, HEND.out⟩
end M
end Go.Proofs.Ytpjcfepngjpfbaa
