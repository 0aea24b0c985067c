/- patch.section, Invert. -/
import Derived.Test.YtplccefjljdjnaaLetsC
set_option linter.unusedVariables false
set_option linter.unusedSimpArgs false
namespace Go.Proofs.Ytplccefjljdjnaa
open Go.RowKit Go.Lib
namespace M
attribute [local go_sem] Oper.semAt_some
set_option maxRecDepth 100000 in
set_option maxHeartbeats 4000000 in
theorem psec_any {D M : Nat} (hD : Dep D M) {n0 B most : Nat} {W : World} {E : List En} {i f n : Nat} {t : List Nat} (hs : StAt n0 W B most E) (hwf : WfD E) (hb : Bal0 E i t) (hfn : f + n ≤ t.length) (hM : t.length ≤ M) (hroom : E.length + secK D ≤ most) (hE : E.length + secK D ≤ 1048576) :
    Calls Try.prog 59 #[.pointer (some ⟨B, 0, none⟩), .int .i64 i, .int .i64 (f : Nat), .int .i64 (n : Nat)] W (JnP n0 B most (secK D) E W ((t.drop f).take n)) := by
  have hE' : E.length ≤ 1048576 := by omega
  have hn0 := hs.lt
  have HN0 := Lib.hid hn0
  have HSZ := Lib.hid (psize_any hs hb.le hE')
  rw [(hb.len hwf).2] at HSZ
  by_cases h0 : n = 0
  · subst h0
    have HFIN : Hid (∀ w, Below W.heap.size W w → JnP n0 B most (secK D) E W ((t.drop f).take 0) (.returned (.tuple #[.int .i64 0, .nilIface])) w) := Lib.hid (fun w hw => ⟨E, 0, rfl, hs.below hw, hwf, Ext.refl _, by omega, ⟨Nat.zero_le _, by rw [txt_zero, List.take_zero], rfl⟩, hw.mono hn0, Kt.of hw⟩)
    generalize t.length = tl at *
    clear hs hwf hb hfn hM hroom hE hE' hn0
    go_enter Try.func59, Try.ntmps59
    go_wp2_with fail
    refine HSZ.out.mono ?_; rintro e w1 ⟨rfl, b1⟩
    have B1 := Lib.hid b1; clear b1
    go_wp2_with fail
    go_ret2
    exact HFIN.out _ B1.out
  have e0 : ((n : Int) == 0) = false := by simp; omega
  by_cases h1 : n = t.length
  · have e1 : ((n : Int) == (t.length : Int)) = true := by rw [h1]; simp
    have HFIN : Hid (∀ w, Below W.heap.size W w → JnP n0 B most (secK D) E W ((t.drop f).take n) (.returned (.tuple #[.int .i64 (i : Nat), .nilIface])) w) := Lib.hid (fun w hw => by
      obtain rfl : f = 0 := by omega
      exact ⟨E, i, rfl, hs.below hw, hwf, Ext.refl _, by omega, by rw [List.drop_zero, h1, List.take_length]; exact hb, hw.mono hn0, Kt.of hw⟩)
    clear hs hwf hb hfn hM hroom hE hE' hn0 h0 h1
    generalize t.length = tl at *
    go_enter Try.func59, Try.ntmps59
    go_wp2_with fail
    refine HSZ.out.mono ?_; rintro e w1 ⟨rfl, b1⟩
    have B1 := Lib.hid b1; clear b1
    go_wp2_with fail
    go_ret2
    exact HFIN.out _ B1.out
  have e1 : ((n : Int) == (t.length : Int)) = false := by simp; omega
  have HSE := Lib.hid (fun w (hw : Below W.heap.size W w) => section_any hD (hs.below hw) hwf hb hfn hM hroom hE)
  clear hs hwf hb hfn hM hroom hE hE' hn0 h0 h1
  generalize (t.drop f).take n = G at *
  generalize t.length = tl at *
  go_enter Try.func59, Try.ntmps59
  go_wp2_with fail
  refine HSZ.out.mono ?_; rintro e w1 ⟨rfl, b1⟩
  have B1 := Lib.hid b1; clear b1
  go_wp2_with fail
  refine (HSE.out w1 B1.out).mono ?_
  intro e w2 hj
  obtain ⟨i2, rfl⟩ := hj.ret
  have HZ := Lib.hid (hj.read B1.out HN0.out)
  clear hj
  go_wp2_with fail
  go_ret2
  exact HZ.out
/-- A change that leads back. -/
def BackC (E : List En) (t : List Nat) (m : Int) (c d : Chg) : Prop := d.pos = c.pos + m ∧ d.n = (txt E c.id).length ∧ Bal0 E d.id ((t.drop c.pos.toNat).take c.n.toNat)
/-- The changes that lead back. -/
def IsInv (E : List En) (t : List Nat) : Int → List Chg → List Chg → Prop
  | _, [], [] => True
  | m, c :: L, d :: R => BackC E t m c d ∧ IsInv E t (m + ((txt E c.id).length - c.n)) L R
  | _, _, _ => False
theorem IsInv.len {E : List En} {t : List Nat} : ∀ {L R : List Chg} {m : Int}, IsInv E t m L R → R.length = L.length
  | [], [], _, _ => rfl
  | [], _ :: _, _, h => by cases h
  | _ :: _, [], _, h => by cases h
  | c :: L, d :: R, _, h => by rw [List.length_cons, List.length_cons, h.2.len]
theorem IsInv.snoc {E : List En} {t : List Nat} : ∀ {L R : List Chg} {m : Int} {c d : Chg}, IsInv E t m L R → BackC E t (moreF E m L) c d → IsInv E t m (L ++ [c]) (R ++ [d])
  | [], [], _, _, _, _, hb => ⟨hb, trivial⟩
  | [], _ :: _, _, _, _, h, _ => by cases h
  | _ :: _, [], _, _, _, h, _ => by cases h
  | c :: L, d :: R, m, _, _, h, hb => ⟨h.1, h.2.snoc hb⟩
theorem IsInv.ext {E E2 : List En} (hx : Ext E E2) {t : List Nat} : ∀ {L R : List Chg} {m : Int}, (∀ c ∈ L, c.id ≤ E.length) → IsInv E t m L R → IsInv E2 t m L R
  | [], [], _, _, _ => trivial
  | [], _ :: _, _, _, h => by cases h
  | _ :: _, [], _, _, h => by cases h
  | c :: L, d :: R, m, hi, h => by
    have he := hx.txt (hi c (by simp))
    obtain ⟨⟨a, b, e⟩, g⟩ := h
    refine ⟨⟨a, by rw [he]; exact b, e.ext hx⟩, ?_⟩
    rw [he]
    exact IsInv.ext hx (fun x hx => hi x (by simp [hx])) g
theorem IsInv.txs {E : List En} {t : List Nat} : ∀ {L R : List Chg} {m : Int}, IsInv E t m L R → Txs E R
  | [], [], _, _ => fun c hc => by simp at hc
  | [], _ :: _, _, h => by cases h
  | _ :: _, [], _, h => by cases h
  | c :: L, d :: R, _, h => fun x hx => by
    rcases List.mem_cons.1 hx with rfl | hx
    · exact ⟨h.1.2.2.le, h.1.2.2.even⟩
    · exact h.2.txs x hx
theorem moreF_ext {E E2 : List En} (hx : Ext E E2) : ∀ (L : List Chg) (m : Int), (∀ c ∈ L, c.id ≤ E.length) → moreF E2 m L = moreF E m L
  | [], _, _ => rfl
  | c :: L, m, h => by
    show moreF E2 (m + ((txt E2 c.id).length - c.n)) L = moreF E (m + ((txt E c.id).length - c.n)) L
    rw [hx.txt (h c (by simp)), moreF_ext hx L _ (fun d hd => h d (by simp [hd]))]
/-- What Invert leaves. -/
def InvertP (n0 B most k : Nat) (E : List En) (W : World) (t : List Nat) (L : List Chg) (e : Ending) (w' : World) : Prop :=
  ((lngF E t.length L).2 ≠ 0 ∧ e = .returned (.tuple #[.slice none 0 0, err (lngF E t.length L).2]) ∧ Below W.heap.size W w') ∨
  ((lngF E t.length L).2 = 0 ∧ ∃ E' R v', e = .returned (.tuple #[v', .nilIface]) ∧ StAt n0 w' B most E' ∧ WfD E' ∧ Ext E E' ∧ E'.length ≤ E.length + k ∧ Chs W.heap.size w' v' R ∧ IsInv E' t 0 L R ∧ Below n0 W w' ∧ Kt W w')
set_option maxRecDepth 100000 in
set_option maxHeartbeats 8000000 in
theorem invert_any {D M : Nat} (hD : Dep D M) {n0 B most b0 : Nat} {W : World} {E : List En} {i : Nat} {t : List Nat} (hs : StAt n0 W B most E) (hwf : WfD E) (hb : Bal0 E i t) {v : Value} {L : List Chg} (hC : Chs b0 W v L) (hT : Txs E L) (hLb : L.length ≤ 100) (hM : t.length ≤ M)
    (hroom : E.length + L.length * secK D ≤ most) (hE : E.length + L.length * secK D ≤ 1048576) :
    Calls Try.prog 36 #[.pointer (some ⟨B, 0, none⟩), .int .i64 i, v] W (InvertP n0 B most (L.length * secK D) E W t L) := by
  have hE' : E.length ≤ 1048576 := by omega
  have hn0 := hs.lt
  have hM60 := hD.2
  have HAP := Lib.hid (applied_any hs hwf hE' hb hC hT (by omega))
  obtain ⟨va, vc, rfl⟩ := hC.len
  have HS := Lib.hid hs; have HWF := Lib.hid hwf; have HB := Lib.hid hb; have HC := Lib.hid hC; have HT := Lib.hid hT; have HN0 := Lib.hid hn0
  have HNN := Lib.hid (And.intro hM (And.intro hroom (And.intro hE (And.intro hM60 hLb))))
  obtain ⟨⟨lv, lc⟩, hlv⟩ : ∃ r, lngF E t.length L = r := ⟨_, rfl⟩
  rw [hlv] at HAP
  dsimp only at HAP
  unfold InvertP
  rw [hlv]
  dsimp only
  by_cases hc : lc = 0
  rotate_left
  · have he : errV lc = .iface 54 (.int .i64 lc) := by unfold errV; rw [if_neg hc]; rfl
    have HC0 := Lib.hid hc
    rw [he] at HAP
    clear hs hwf hb hC hT hM hroom hE hE' hn0 hM60 hlv hc he
    go_enter Try.func36, Try.ntmps36
    go_wp2_with fail
    refine HAP.out.mono ?_; rintro e w1 ⟨rfl, b1⟩
    have B1 := Lib.hid b1; clear b1
    go_wp2_with fail
    go_ret2
    exact .inl ⟨HC0.out, rfl, B1.out⟩
  subst hc
  rw [show errV 0 = .nilIface from rfl] at HAP
  have hok := lngF_ok (E := E) (len := t.length) (L := L) (by rw [hlv])
  have HOK := Lib.hid hok
  have HMEM := Lib.hid (formF_mem L (-1) hok.2.2.1)
  have HMR : Hid (∀ j, j ≤ L.length → -1152921504606846976 ≤ moreF E 0 (L.take j) ∧ moreF E 0 (L.take j) ≤ 2305843009213693952) := Lib.hid (fun j hj => by
    rw [moreF_eq]
    have h1 := insF_take_le E L j
    have h2 := del_le (by omega) (formF_take hok.2.2.1 j)
    have h3 := del_le (by omega) hok.2.2.1
    omega)
  have hids : ∀ c ∈ L, c.id ≤ E.length := fun c hc => (hT c hc).1
  have HIDS := Lib.hid hids
  clear hs hwf hb hC hT hM hroom hE hE' hn0 hM60 hlv hok hids
  go_enter Try.func36, Try.ntmps36
  go_wp2_with fail
  refine HAP.out.mono ?_; rintro e w1 ⟨rfl, b1⟩
  have B1 := Lib.hid b1; clear b1
  go_wp2_with fail
  go_loopw [10, 11, 29] (fun p u c wr => ∃ (j : Nat) (E1 : List En) (R : List Chg), j ≤ L.length ∧ c = .int .i64 j ∧ u = .int .i64 (moreF E 0 (L.take j)) ∧ Chs W.heap.size wr p R ∧ StAt n0 wr B most E1 ∧ WfD E1 ∧ Ext E E1 ∧ E1.length ≤ E.length + j * secK D ∧ IsInv E1 t 0 (L.take j) R ∧ Below n0 W wr ∧ Kt W wr) (fun _ _ c _ => L.length - (intOf c).toNat)
  case atStart => exact ⟨0, E, [], Nat.zero_le _, rfl, rfl, SlA.nil _ _ _ _ _, HS.out.below B1.out, HWF.out, Ext.refl _, by omega, trivial, B1.out.mono HN0.out, Kt.of B1.out⟩
  case round =>
    obtain ⟨j, E1, R, hj, rfl, rfl, hR, hs1, hwf1, hx1, hn1, hI, hbw, hkt⟩ := hrel
    obtain ⟨pa, pc, hpv⟩ := hR.len
    have hrl : R.length = j := by rw [hI.len, List.length_take]; omega
    rw [hrl] at hpv
    subst hpv
    by_cases hlt : j < L.length
    · have hlt2 : (j : Int) < (L.length : Int) := by omega
      obtain ⟨g, cap, e1, -, -, hcc⟩ := Chs.at (kt_chs HC.out hkt) hlt
      simp only [Value.slice.injEq] at e1
      obtain ⟨rfl, -, rfl⟩ := e1
      obtain ⟨m0, m1, m2⟩ := hcc wr (Below.refl _ _) j hlt
      have hmem := HMEM.out _ (List.getElem_mem hlt)
      have hci := HIDS.out _ (List.getElem_mem hlt)
      have HTK := Lib.hid (take_snoc hlt)
      have hmr := HMR.out j hj
      have hmr1 := HMR.out (j + 1) hlt
      have hms := moreF_snoc E (L.take j) 0 L[j]
      rw [← take_snoc hlt] at hms
      have HJ := Lib.hid hlt
      have hnn := HNN.out
      have hmul : (j + 1) * secK D ≤ L.length * secK D := Nat.mul_le_mul_right _ (by omega)
      have hsucc : (j + 1) * secK D = j * secK D + secK D := Nat.succ_mul _ _
      generalize L[j] = c at *
      obtain ⟨wz, w2, hz, hst1, kc, bw, ⟨p0, p1, p2⟩, q0, q1, q2⟩ := newCh wr c
      obtain ⟨gc, hgc⟩ : ∃ g, wr.heap.size = g := ⟨_, rfl⟩
      rw [hgc] at hst1 kc p0 p1 p2 q0 q1 q2
      obtain ⟨x0, x1, x2⟩ := kc.cells
      have hci1 : c.id ≤ E1.length := Nat.le_trans hci hx1.le
      have HSZ := Lib.hid (psize_any (hs1.below bw) hci1 (by omega))
      have htx : (entAt E1 c.id).w.len = (txt E c.id).length := by
        have h := (hwf1.wf.len hci1).1
        rw [h, hx1.txt hci]; rfl
      rw [htx] at HSZ
      obtain ⟨cp, hcp⟩ : ∃ n : Nat, c.pos = (n : Int) := ⟨c.pos.toNat, by omega⟩
      obtain ⟨cn, hcn⟩ : ∃ n : Nat, c.n = (n : Int) := ⟨c.n.toNat, by omega⟩
      have HPS : Hid (∀ w, Below w2.heap.size w2 w → Calls Try.prog 59 #[.pointer (some ⟨B, 0, none⟩), .int .i64 i, .int .i64 c.pos, .int .i64 c.n] w (JnP n0 B most (secK D) E1 w ((t.drop c.pos.toNat).take c.n.toNat))) := Lib.hid (fun w hw => by
        have := psec_any hD ((hs1.below bw).below hw) hwf1 (HB.out.ext hx1) (f := cp) (n := cn) (by omega) hnn.1 (by omega) (by omega)
        rw [← hcp, ← hcn] at this
        rw [show c.pos.toNat = cp by omega, show c.n.toNat = cn by omega]
        exact this)
      obtain ⟨tn, htn⟩ : ∃ n, (txt E c.id).length = n := ⟨_, rfl⟩
      rw [htn] at HSZ hms
      have HTN : Hid ((txt E1 c.id).length = tn) := Lib.hid (by rw [hx1.txt hci]; exact htn)
      have HME : Hid (moreF E1 0 (L.take j) = moreF E 0 (L.take j)) := Lib.hid (moreF_ext hx1 _ _ (fun d hd => HIDS.out d (List.mem_of_mem_take hd)))
      have htb : tn ≤ 1152921504606846976 := by rw [← htn, ← hx1.txt hci]; exact (hwf1.wf.len hci1).2
      obtain ⟨mj, hmj⟩ : ∃ z, moreF E 0 (L.take j) = z := ⟨_, rfl⟩
      obtain ⟨mk, hmk⟩ : ∃ z, moreF E 0 (L.take (j + 1)) = z := ⟨_, rfl⟩
      rw [hmj] at hmr hms HME ⊢
      rw [hmk] at hmr1 hms
      have HMK := Lib.hid hmk
      have hw1 : IntKind.i64.wrap (c.pos + mj) = c.pos + mj := by rw [IntKind.wrap_i64]; have := HOK.out; omega
      have hw2 : IntKind.i64.wrap ((tn : Int) - c.n) = (tn : Int) - c.n := by rw [IntKind.wrap_i64]; have := HOK.out; omega
      have hw3 : IntKind.i64.wrap (mj + ((tn : Int) - c.n)) = mk := by rw [IntKind.wrap_i64]; omega
      have HOW : Hid (∀ q, (Value.slice pa j pc).ownBlock = some q → q < gc) := Lib.hid (fun q hq => by have := SlA.own_lt hR hq; rw [hgc] at this; exact this)
      have HR := Lib.hid (And.intro (hR.below bw) (And.intro (hs1.below bw) (And.intro hwf1 (And.intro hx1 (And.intro hn1 (And.intro hI (And.intro (hbw.trans (bw.mono hs1.lt)) (And.intro (hkt.trans (Kt.of bw)) (And.intro hsucc hrl)))))))))
      have HKC := Lib.hid kc
      have HCI := Lib.hid hci1
      have hlo2 : W.heap.size ≤ w2.heap.size := Nat.le_trans hbw.size bw.size
      clear hR hs1 hwf1 hx1 hn1 hI hbw hkt bw kc hmul hsucc hnn hmr hmr1 hms hmk hmj htn htx hci hci1 hcc hcp hcn hrl hmem
      go_wp2_with fail
      clear hz hst1 p0 p1 p2 q0 q1 q2 hgc m0 m1 m2
      refine HSZ.out.mono ?_; rintro e w3 ⟨rfl, b3⟩
      have HB3 := Lib.hid b3
      obtain ⟨x0', x1', x2'⟩ := (show ChC w3 gc c from below_block b3 HKC.out).cells
      clear b3 x0 x1 x2
      go_wp2_with fail
      refine (HPS.out w3 HB3.out).mono ?_
      rintro e w4 ⟨E4, i4, rfl, s4, f4, x4, n4, bl4, bb4, kt4⟩
      have hk4 : ChC w4 gc c := kt4 _ (by decide) (by decide) _ _ _ (below_block HB3.out HKC.out)
      obtain ⟨y0, y1, y2⟩ := hk4.cells
      have HK4 := Lib.hid hk4
      have HI4 : Hid (Chs W.heap.size w4 (.slice pa j pc) R) := Lib.hid (kt_chs (SlA.below HR.out.1 HB3.out) kt4)
      have HX4 := Lib.hid (And.intro f4 (And.intro x4 (And.intro n4 (And.intro bl4 (And.intro bb4 kt4)))))
      have HS4 := Lib.hid s4
      have hlo4 : W.heap.size ≤ w4.heap.size := Nat.le_trans hlo2 (Nat.le_trans HB3.out.size bb4.size)
      have hrl5 : R.length + 1 ≤ 2000 := by have := HR.out.2.2.2.2.2.2.2.2.2; have := HNN.out; omega
      clear hk4 s4 f4 x4 n4 bl4 bb4 kt4 x0' x1' x2'
      go_wp2_with (first
        | (at_builtin; refine wp_app1G (v := .slice pa j pc) elemCh encCh_len rfl _ _ rfl rfl HI4.out ⟨c.pos + mj, tn, i4⟩ rfl rfl ?c1 ?c2 hlo4 ?_))
      case c1 => simp [encCh, Value.oneCell']
      case c2 => omega
      intro v5 w5 hS5 hg5 hb5
      have HS5 := Lib.hid hS5
      have HST5 := Lib.hid (HS4.out.app' HI4.out hg5 (by decide) (by decide))
      have HB5 := Lib.hid hb5
      have hgc4 : gc < w4.heap.size := (Array.getElem?_eq_some_iff.1 HK4.out).1
      have hown : (Value.slice pa j pc).ownBlock ≠ some gc := fun e => Nat.lt_irrefl _ (HOW.out _ e)
      have hk5 : ChC w5 gc c := by
        unfold ChC
        rw [hg5.block gc (by simp; omega) (fun e => hown e.symm), Below.heap_alloc _ _ _ hgc4]
        exact HK4.out
      obtain ⟨y0', y1', y2'⟩ := hk5.cells
      clear hS5 y0 y1 y2 hg5 hb5 hk5 hown hgc4
      go_wp2_with fail
      clear y0' y1' y2'
      go_roundw
      case rel =>
        obtain ⟨r1, r2, r3, r4, r5, r6, r7, r8, r9, r10⟩ := HR.out
        obtain ⟨f4, x4, n4, bl4, bb4, kt4⟩ := HX4.out
        refine ⟨j + 1, E4, R ++ [⟨c.pos + mj, tn, i4⟩], HJ.out, by go_num, by rw [HMK.out], HS5.out, HST5.out, f4, r4.trans x4, by omega, ?_, (r7.trans ((HB3.out.mono (Nat.le_trans HS.out.lt hlo2)).trans bb4)).trans (HB5.out.mono HN0.out), ((r8.trans (Kt.of HB3.out)).trans kt4).then HB5.out⟩
        rw [HTK.out]
        refine (r6.ext x4 (fun d hd => Nat.le_trans (HIDS.out d (List.mem_of_mem_take hd)) r4.le)).snoc ⟨?_, ?_, bl4⟩
        · show c.pos + mj = c.pos + moreF E4 0 (L.take j)
          rw [moreF_ext x4 _ _ (fun d hd => Nat.le_trans (HIDS.out d (List.mem_of_mem_take hd)) r4.le), HME.out]
        · show (tn : Int) = ((txt E4 c.id).length : Int)
          rw [x4.txt HCI.out, HTN.out]
      case measure => have := HJ.out; simp [intOf]; omega
    · obtain rfl : j = L.length := by omega
      rw [List.take_length] at hI
      have HFIN : Hid (∃ E' R' v', (Ending.returned (.tuple #[.slice pa L.length pc, .nilIface]) : Ending) = .returned (.tuple #[v', .nilIface]) ∧ StAt n0 wr B most E' ∧ WfD E' ∧ Ext E E' ∧ E'.length ≤ E.length + L.length * secK D ∧ Chs W.heap.size wr v' R' ∧ IsInv E' t 0 L R' ∧ Below n0 W wr ∧ Kt W wr) := Lib.hid ⟨E1, R, _, rfl, hs1, hwf1, hx1, hn1, hR, hI, hbw, hkt⟩
      clear hR hs1 hwf1 hx1 hn1 hI hbw hkt hj hrl
      go_wp2_with fail
      go_ret2
      exact .inr ⟨by first | rfl | trivial, HFIN.out⟩
end M
end Go.Proofs.Ytplccefjljdjnaa
