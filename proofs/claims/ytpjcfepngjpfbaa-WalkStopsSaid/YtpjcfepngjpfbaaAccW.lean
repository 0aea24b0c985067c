/- access.Weight: the weight of a range. -/
import Derived.Test.YtpjcfepngjpfbaaParts
import Derived.Test.YtpjcfepngjpfbaaAccJoin
import Derived.Test.YtpjcfepngjpfbaaWRep
namespace Go.Proofs.Ytpjcfepngjpfbaa
open Go.RowKit Go.Lib
namespace M
attribute [local go_sem] Oper.semAt_some
set_option maxRecDepth 100000 in
theorem range_yes (W : World) {f n l : Nat} (hl : l ≤ 1152921504606846976) (h : f + n ≤ l) : Calls Try.prog 48 #[.int .i64 f, .int .i64 n, .int .i64 l] W fun e w' => e = .returned .nilIface ∧ w' = W := by
  have h1 : ¬ (f : Int) < 0 := by omega
  have h2 : ¬ (n : Int) < 0 := by omega
  have h3 : ¬ (f : Int) > (l : Int) := by omega
  have h4 : ¬ (n : Int) > (l : Int) - (f : Int) := by omega
  have h5 : ¬ l < f := by omega
  have HV := Lib.hid (valid_yes W hl)
  go_enter Try.func48, Try.ntmps48
  go_wp2_with fail
  refine HV.out.mono ?_; rintro e w ⟨rfl, h⟩; rw [h]; clear h w
  go_wp2_with fail
  go_ret
  exact ⟨rfl, rfl⟩
def PsC (W : World) (g B : Nat) : Prop := W.heap[g]? = some (.cells #[.pointer (some ⟨B, 0, none⟩)] 23 (0, 0))
theorem PsC.cell {W : World} {g B : Nat} (h : PsC W g B) : W.cell? ⟨g, 0, none⟩ = some (.pointer (some ⟨B, 0, none⟩)) := by
  unfold PsC at h
  simp [World.cell?, h]
set_option maxRecDepth 100000 in
set_option maxHeartbeats 4000000 in
theorem wvisit_any {n0 B most : Nat} {E : List En} {W : World} (hs : StAt n0 W B most E) (hwf : Wf E) (hE : E.length ≤ 1048576) {gs gm : Nat} (hgs : PsC W gs B) {acc : List Nat} (hsum : WtC W gm (wt acc)) {x m : Nat} (hx0 : 0 < x) (hx : x ≤ E.length) (hm : 0 < m) (hl : acc.length + m * (txt E x).length ≤ 1152921504606846976) :
    Calls Try.prog 77 #[.int .i64 x, .int .i64 m, .pointer (some ⟨gs, 0, none⟩), .pointer (some ⟨gm, 0, none⟩)] W fun e w' => e = .returned .nilIface ∧ ∃ w1, Below W.heap.size W w1 ∧ w' = setW w1 gm (wt (acc ++ rep m (txt E x))) := by
  obtain ⟨t, ht⟩ : ∃ t, txt E x = t := ⟨_, rfl⟩
  obtain ⟨hw, -, hpos, -⟩ := hwf.get x hx0 hx
  have HW := Lib.hid (weight_any hs hx hE)
  rw [hw, ht] at HW
  rw [ht] at hl hpos
  rw [ht]
  have hmt : t.length * m ≤ 1152921504606846976 := by rw [Nat.mul_comm]; omega
  have hm63 : m ≤ 9223372036854775807 := by
    have := Nat.mul_le_mul_left m hpos
    omega
  have HJ : Hid (∀ w, Calls Try.prog 78 #[wtV (wt acc), wtV (wt (rep m t))] w fun e w' => e = .returned (wtV (wt (acc ++ rep m t))) ∧ Below w.heap.size w w') := Lib.hid (fun w => by
    have h := ajoin_any w (a := wt acc) (b := wt (rep m t)) (wt_ok (by omega)) (wt_ok (by rw [rep_length]; omega)) (by show acc.length + (rep m t).length ≤ _; rw [rep_length]; exact hl)
    rwa [← wt_append] at h)
  obtain ⟨z, hz⟩ : ∃ z, wt (acc ++ rep m t) = z := ⟨_, rfl⟩
  obtain ⟨sa, hsa⟩ : ∃ z, wt acc = z := ⟨_, rfl⟩
  rw [hz, hsa] at HJ
  rw [hsa] at hsum
  rw [hz]
  have KS := Lib.hid hsum; have KP := Lib.hid hgs
  have c0 := hgs.cell
  clear hs hwf hgs hsum hw ht hz hsa
  by_cases h1 : m = 1
  · subst h1
    rw [rep_one] at HJ
    obtain ⟨u, hu⟩ : ∃ u, wt t = u := ⟨_, rfl⟩
    rw [hu] at HJ HW
    unfold wtV at HJ HW
    clear hu
    go_enter Try.func77, Try.ntmps77
    go_wp2_with fail
    refine HW.out.mono ?_; rintro e w1 ⟨rfl, b1⟩
    obtain ⟨wz, w2, hz, hs, kw, bw, ⟨p0, p1, p2, p3, p4, p5⟩, q0, q1, q2, q3, q4, q5⟩ := newWt w1 u
    obtain ⟨x0, x1, x2, x3, x4, x5⟩ := kw.cells
    have B2 := Lib.hid (Below.after b1 bw)
    obtain ⟨y0, y1, y2, y3, y4, y5⟩ := WtC.cells (below_block B2.out KS.out)
    clear b1 kw bw c0
    go_wp2_with fail
    refine (HJ.out w2).mono ?_; rintro e w3 ⟨rfl, b3⟩
    have B3 := Lib.hid (Below.after B2.out b3)
    have k3 : WtC w3 gm sa := below_block B3.out KS.out
    clear hz hs p0 p1 p2 p3 p4 p5 q0 q1 q2 q3 q4 q5 x0 x1 x2 x3 x4 x5 y0 y1 y2 y3 y4 y5 b3
    obtain ⟨y0, y1, y2, y3, y4, y5⟩ := k3.cells
    have f0 := k3.free 0; have f1 := k3.free 1; have f2 := k3.free 2; have f3 := k3.free 3; have f4 := k3.free 4; have f5 := k3.free 5
    clear k3
    go_wp2_with fail
    go_ret
    exact ⟨rfl, w3, B3.out, rfl⟩
  · have h1i : (m : Int) > 1 := by omega
    have HR := Lib.hid (fun w : World => wrep_any w (t := t) hm hm63 hpos hmt)
    obtain ⟨u, hu⟩ : ∃ u, wt t = u := ⟨_, rfl⟩
    obtain ⟨v, hv⟩ : ∃ u, wt (rep m t) = u := ⟨_, rfl⟩
    simp only [hu, hv] at HR
    rw [hu] at HW
    rw [hv] at HJ
    unfold wtV at HJ HW HR
    clear hu hv h1
    go_enter Try.func77, Try.ntmps77
    go_wp2_with fail
    refine HW.out.mono ?_; rintro e w1 ⟨rfl, b1⟩
    obtain ⟨wz, w2, hz, hs, kw, bw, ⟨p0, p1, p2, p3, p4, p5⟩, q0, q1, q2, q3, q4, q5⟩ := newWt w1 u
    obtain ⟨x0, x1, x2, x3, x4, x5⟩ := kw.cells
    have B2 := Lib.hid (Below.after b1 bw); have KW := Lib.hid kw
    have HB1 : Hid (W.heap.size ≤ w1.heap.size) := Lib.hid b1.size
    clear b1 kw bw c0
    go_wp2_with fail
    refine (HR.out w2).mono ?_; rintro e w3 ⟨rfl, b3⟩
    have B3 := Lib.hid (Below.after B2.out b3)
    have k3 : WtC w3 w1.heap.size u := below_block b3 KW.out
    clear hz hs p0 p1 p2 p3 p4 p5 q0 q1 q2 q3 q4 q5 x0 x1 x2 x3 x4 x5 b3
    obtain ⟨y0, y1, y2, y3, y4, y5⟩ := k3.cells
    have f0 := k3.free 0; have f1 := k3.free 1; have f2 := k3.free 2; have f3 := k3.free 3; have f4 := k3.free 4; have f5 := k3.free 5
    obtain ⟨w4, hw4⟩ : ∃ w, setW w3 w1.heap.size v = w := ⟨_, rfl⟩
    have k4 : WtC w4 w1.heap.size v := by rw [← hw4]; exact k3.set v
    have b4 : Below W.heap.size W w4 := by rw [← hw4]; exact setW_below B3.out HB1.out v
    simp only [setW] at hw4
    obtain ⟨x0, x1, x2, x3, x4, x5⟩ := k4.cells
    have B4 := Lib.hid b4
    obtain ⟨z0, z1, z2, z3, z4, z5⟩ := WtC.cells (below_block b4 KS.out)
    clear k3 k4 b4
    go_wp2_with fail
    refine (HJ.out w4).mono ?_; rintro e w5 ⟨rfl, b5⟩
    have B5 := Lib.hid (Below.after B4.out b5)
    have k5 : WtC w5 gm sa := below_block B5.out KS.out
    clear hw4 x0 x1 x2 x3 x4 x5 y0 y1 y2 y3 y4 y5 z0 z1 z2 z3 z4 z5 f0 f1 f2 f3 f4 f5 b5
    obtain ⟨y0, y1, y2, y3, y4, y5⟩ := k5.cells
    have f0 := k5.free 0; have f1 := k5.free 1; have f2 := k5.free 2; have f3 := k5.free 3; have f4 := k5.free 4; have f5 := k5.free 5
    clear k5
    go_wp2_with fail
    go_ret
    exact ⟨rfl, w5, B5.out, rfl⟩
theorem setW_other {W : World} {g k : Nat} {o : Obj} (v : Wt) (hk : k ≠ g) (h : W.heap[k]? = some o) : (setW W g v).heap[k]? = some o := set_other hk (set_other hk (set_other hk (set_other hk (set_other hk (set_other hk h)))))
theorem ne_type {W : World} {g k : Nat} {cs cs' : Array Value} {t t' : TypeId} {fz fz' : Nat × Nat} (h : W.heap[k]? = some (.cells cs t fz)) (h' : W.heap[g]? = some (.cells cs' t' fz')) (ht : t ≠ t') : k ≠ g := fun e => by
  subst e; rw [h] at h'; simp at h'; exact ht h'.2.1
theorem setW_keep {W : World} {g : Nat} {u : Wt} (h : WtC W g u) (v : Wt) {t : TypeId} (ht : t ≠ 88) : KeepT t W (setW W g v) := fun k cs fz hk => setW_other v (ne_type hk h ht) hk
theorem setW_stat {n0 B most : Nat} {W : World} {E : List En} (hs : StAt n0 W B most E) {g : Nat} {u : Wt} (h : WtC W g u) (v : Wt) : StAt n0 (setW W g v) B most E := by
  obtain ⟨lv, mb, k1, k2, k3, k4⟩ := hs
  refine ⟨lv, mb, setW_keep h v (by decide) _ _ _ k1, SlA.keep k2 (setW_keep h v (by decide)), ?_, k4⟩
  obtain ⟨es, c, h5, h6⟩ := k3
  refine ⟨es, c, setW_other v (fun e => ?_) h5, h6⟩
  subst e; unfold WtC at h; rw [h] at h5; cases h5
theorem StAt.kps {n n0 B most : Nat} {A C : World} {E : List En} (hs : StAt n0 A B most E) (h : KpS n A C) : StAt n0 C B most E := by
  obtain ⟨lv, mb, k1, k2, k3, k4⟩ := hs
  refine ⟨lv, mb, h.cells _ (by decide) _ _ _ k1, SlA.keep k2 (h.cells _ (by decide)), ?_, k4⟩
  obtain ⟨es, c, h5, h6⟩ := k3
  exact ⟨es, c, h.others.same _ _ h5 rfl, h6⟩
theorem setW_size (W : World) (g : Nat) (v : Wt) : (setW W g v).heap.size = W.heap.size := by simp [setW]
/-- What the sum's visitor keeps. -/
def IW (n0 B most : Nat) (E : List En) (n1 gs gm gr : Nat) (W0 : World) (acc : List Nat) (w : World) : Prop := StAt n0 w B most E ∧ PsC w gs B ∧ WtC w gm (wt acc) ∧ WtC w gr w0 ∧ Below n1 W0 w
set_option maxRecDepth 100000 in
set_option maxHeartbeats 4000000 in
theorem aweight_any {n0 B most : Nat} {E : List En} {W : World} (hs : StAt n0 W B most E) (hwf : Wf E) (hE : E.length ≤ 1048576) {id frm n : Nat} (hid : id ≤ E.length) (hr : frm + n ≤ (txt E id).length) :
    Calls Try.prog 37 #[.pointer (some ⟨B, 0, none⟩), .int .i64 id, .int .i64 frm, .int .i64 n] W fun e w' => e = .returned (.tuple #[wtV (wt (((txt E id).drop frm).take n)), .nilIface]) ∧ Below W.heap.size W w' := by
  have hmf : ∀ (fn : Fn) (first cap : Array Value) (w : World), (Instr.makeFunc fn first cap).run Try.prog w = .ok (.func fn first cap) w := fun _ _ _ _ => rfl
  obtain ⟨hw, hlen⟩ := hwf.len hid
  have H := Lib.hid hs; have HWF := Lib.hid hwf; have HR := Lib.hid hr
  obtain ⟨W1, hW1⟩ : ∃ w, (W.alloc (.cells #[.pointer (some ⟨B, 0, none⟩)] 23)).alloc (.cells #[.int .i64 0, .int .i64 0, .int .i64 0, .int .i64 0, .int .u64 0, .int .u64 0] 88) = w := ⟨_, rfl⟩
  have k1 : PsC W1 W.heap.size B := by rw [← hW1]; exact below_block ((Below.refl _ _).alloc (Nat.le_refl _) _) (heap_new' W _)
  have k2 : WtC W1 (W.heap.size + 1) w0 := by
    rw [← hW1]
    have := heap_new' (W.alloc (.cells #[.pointer (some ⟨B, 0, none⟩)] 23)) (.cells #[.int .i64 0, .int .i64 0, .int .i64 0, .int .i64 0, .int .u64 0, .int .u64 0] 88)
    rw [World.size_alloc] at this
    exact this
  have b1 : Below W.heap.size W W1 := by rw [← hW1]; exact ((Below.refl _ W).alloc (Nat.le_refl _) _).alloc (by simp) _
  have hz1 : W1.heap.size = W.heap.size + 2 := by rw [← hW1]; simp
  have HW := Lib.hid (weight_any (hs.below b1) hid hE)
  rw [hw] at HW
  obtain ⟨t, ht⟩ : ∃ t, txt E id = t := ⟨_, rfl⟩
  rw [ht] at HW hr hlen ⊢
  have HT := Lib.hid ht
  obtain ⟨u, hu⟩ : ∃ u, wt t = u := ⟨_, rfl⟩
  have hul : u.len = t.length := by rw [← hu]; rfl
  rw [hu] at HW
  unfold wtV at HW
  have HRG := Lib.hid (fun w : World => range_yes w (f := frm) (n := n) (l := u.len) (by omega) (by omega))
  have K1 := Lib.hid k1; have K2 := Lib.hid k2; have B1 := Lib.hid b1; have HZ1 := Lib.hid hz1
  have c0 := k1.cell
  have hnb : n ≤ 1152921504606846976 := by omega
  clear hs hwf hw k1 k2 b1 hz1 ht hu hul hr hlen
  go_enter Try.func37, Try.ntmps37
  go_wp2_with fail
  refine HW.out.mono ?_; rintro e w1 ⟨rfl, b2⟩
  obtain ⟨wz, w2, hz, hs, kw, bw, ⟨p0, p1, p2, p3, p4, p5⟩, q0, q1, q2, q3, q4, q5⟩ := newWt w1 u
  obtain ⟨x0, x1, x2, x3, x4, x5⟩ := kw.cells
  have B2 := Lib.hid (Below.after b2 bw)
  clear b2 kw bw c0
  go_wp2_with fail
  refine (HRG.out w2).mono ?_; rintro e w ⟨rfl, h⟩; rw [h]; clear h w
  clear hW1 hz hs p0 p1 p2 p3 p4 p5 q0 q1 q2 q3 q4 q5 x0 x1 x2 x3 x4 x5
  go_wp2_with fail
  refine (wunit_any w2).mono ?_; rintro e w3 ⟨rfl, b3⟩
  obtain ⟨u0, hu0⟩ : ∃ u, wt [] = u := ⟨_, rfl⟩
  have HU0 := Lib.hid hu0
  rw [hu0]
  unfold wtV
  obtain ⟨wz, w4, hz, hs, kw, bw, ⟨p0, p1, p2, p3, p4, p5⟩, q0, q1, q2, q3, q4, q5⟩ := newWt w3 u0
  obtain ⟨x0, x1, x2, x3, x4, x5⟩ := kw.cells
  have B4 := Lib.hid (Below.after B2.out (Below.after b3 bw))
  have c4 := PsC.cell (show PsC w4 W.heap.size B from below_block B4.out K1.out)
  obtain ⟨gm, hgm⟩ : ∃ g, w3.heap.size = g := ⟨_, rfl⟩
  have HGM : Hid (W.heap.size + 2 ≤ gm) := Lib.hid (by have h1 := B2.out.size; have h2 := b3.size; have h3 := HZ1.out; omega)
  have HI4 : Hid (IW n0 B most E W.heap.size W.heap.size gm (W.heap.size + 1) W [] w4) := Lib.hid (by
    refine ⟨H.out.below (Below.after B1.out B4.out), below_block B4.out K1.out, ?_, below_block B4.out K2.out, Below.after B1.out B4.out⟩
    rw [← hgm, HU0.out]; exact kw)
  have HPA : Hid (Calls Try.prog 76 #[.pointer (some ⟨B, 0, none⟩), .int .i64 id, .int .i64 frm, .int .i64 n, .func (.func 77) #[] #[.pointer (some ⟨W.heap.size, 0, none⟩), .pointer (some ⟨gm, 0, none⟩)]] w4 fun e w' => e = .returned .nilIface ∧ IW n0 B most E W.heap.size W.heap.size gm (W.heap.size + 1) W ([] ++ ((txt E id).drop frm).take n) w') := Lib.hid (by
    refine parts_any HWF.out hE 77 (fun _ _ => by kernel_rfl) _ _ (IW n0 B most E W.heap.size W.heap.size gm (W.heap.size + 1) W) [] (fun acc w h => h.1) ?_ ?_ HI4.out hid HR.out
    · rintro acc w w' ⟨h1, h2, h3, h4, h5⟩ hk
      exact ⟨h1.kps hk, hk.cells _ (by decide) _ _ _ h2, hk.cells _ (by decide) _ _ _ h3, hk.cells _ (by decide) _ _ _ h4, h5.trans (hk.below.mono (Nat.le_trans (Nat.le_trans (Nat.le_add_right _ 2) (by rw [← HZ1.out]; exact Nat.le_refl _)) B4.out.size))⟩
    · rintro acc w x m ⟨h1, h2, h3, h4, h5⟩ hx0 hx hm hl
      refine (wvisit_any h1 HWF.out hE h2 h3 hx0 hx hm (by simp at hl; omega)).mono ?_
      rintro e w' ⟨rfl, w1, b1, rfl⟩
      have k3 : WtC w1 gm (wt acc) := below_block b1 h3
      have k4 : WtC w1 (W.heap.size + 1) w0 := below_block b1 h4
      refine ⟨rfl, ⟨setW_stat (h1.below b1) k3 _, setW_keep k3 _ (by decide) _ _ _ (below_block b1 h2), k3.set _, setW_other _ (by have := HGM.out; omega) k4, ?_⟩, (KeepT.below b1).trans (setW_keep k3 _ (by decide)), by rw [setW_size]; exact b1.size⟩
      exact setW_below (h5.trans (b1.mono h5.size)) (by have := HGM.out; omega) _)
  rw [hgm] at hs p0 p1 p2 p3 p4 p5 q0 q1 q2 q3 q4 q5
  clear x0 x1 x2 x3 x4 x5 kw bw b3 hu0
  go_wp2_with fail
  refine HPA.out.mono ?_
  rintro e w5 ⟨rfl, i1, i2, i3, i4, i5⟩
  rw [List.nil_append, HT.out] at i3
  obtain ⟨v, hv⟩ : ∃ v, wt ((t.drop frm).take n) = v := ⟨_, rfl⟩
  have HV := Lib.hid hv
  rw [hv] at i3
  clear hz hs p0 p1 p2 p3 p4 p5 q0 q1 q2 q3 q4 q5 c4 hgm hv
  obtain ⟨y0, y1, y2, y3, y4, y5⟩ := i3.cells
  obtain ⟨r0, r1, r2, r3, r4, r5⟩ := i4.cells
  simp only [w0] at r0 r1 r2 r3 r4 r5
  have f0 := i4.free 0; have f1 := i4.free 1; have f2 := i4.free 2; have f3 := i4.free 3; have f4 := i4.free 4; have f5 := i4.free 5
  obtain ⟨w6, hw6⟩ : ∃ w, setW w5 (W.heap.size + 1) v = w := ⟨_, rfl⟩
  have k6 : WtC w6 (W.heap.size + 1) v := by rw [← hw6]; exact i4.set v
  have B6 : Hid (Below W.heap.size W w6) := Lib.hid (by rw [← hw6]; exact setW_below i5 (by omega) v)
  simp only [setW] at hw6
  obtain ⟨s0, s1, s2, s3, s4, s5⟩ := k6.cells
  clear i1 i2 i3 i4 i5 k6
  go_wp2_with fail
  exact bodyPost_ret (v := .tuple #[.agg #[.int .i64 v.len, .int .i64 v.lines, .int .i64 v.head, .int .i64 v.tail, .int .u64 v.d.v, .int .u64 v.d.s], .nilIface]) (by simp [results, Try.results37, go_sem, s0, s1, s2, s3, s4, s5]) rfl ⟨by rw [HV.out], B6.out⟩
end M
end Go.Proofs.Ytpjcfepngjpfbaa
