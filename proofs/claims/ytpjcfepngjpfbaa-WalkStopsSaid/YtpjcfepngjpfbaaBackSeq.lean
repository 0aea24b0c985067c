/- What walk.Back returns, as an iterator: whatever the offset; what comes next in lists of letters. -/
import Derived.Test.YtpjcfepngjpfbaaLetIt
import Derived.Test.YtpjcfepngjpfbaaBackW
import Derived.Test.YtpjcfepngjpfbaaLetSeq
namespace Go.Proofs.Ytpjcfepngjpfbaa
open Go.RowKit Go.Lib
namespace M
attribute [local go_sem] Oper.semAt_some
theorem lzs_snoc (s : List Nat) (b a : Nat) : lzs (s ++ [b]) a = lzs s a ++ [(a + s.length, b)] := by rw [lzs_append]; rfl
/-- Between two rounds. -/
def BkI (z gt g n0 M B most : Nat) (E : List En) (t0 : List Nat) (J : List (Nat × Nat) → World → Prop) (k : Nat) (av : Value) (wr : World) : Prop :=
  ∃ (a : Nat) (L : List Cp) (v : Value) (pre : List (Nat × Nat)), wkC E L = k ∧ av = .int .i64 a ∧ CxC wr gt v ∧ Cps z wr v L ∧ StkC E L ∧ (pre ++ (lzs (up E L) 0).reverse = (lzs t0 0).reverse ∧ (up E L).length = a ∧ a ≤ 1152921504606846976) ∧ J pre wr ∧ StB n0 M wr B most E ∧ CpB wr g B ∧ z ≤ wr.heap.size
set_option maxRecDepth 100000 in
set_option maxHeartbeats 8000000 in
theorem back_stops (n : Nat) {n0 B most g M : Nat} {w : World} {E : List En} {id frm : Nat} (hC : LtC w g B id frm) (hs : StAt n0 w B most E) (hwf : Wf E) (hE : E.length ≤ 1048576) (h0 : 0 < id) (hid : id ≤ E.length) (hf0 : 0 < frm) (hfr : frm ≤ (txt E id).length) (hM : w.heap.size ≤ M) :
    SeqStopsT Fence.wide n Try.prog 61 #[.pointer (some ⟨g, 0, none⟩), .pointer (some ⟨g + 1, 0, none⟩), .pointer (some ⟨g + 2, 0, none⟩)] (fun x : Nat × Nat => #[.int .i64 x.1, .int .u8 x.2]) (KpI LtK M) CpT (fun ys => ys = (lzs ((txt E id).take frm) 0).reverse) (fun pre => pre <+: (lzs ((txt E id).take frm) 0).reverse) (fun pre x => pre ++ [x] <+: (lzs ((txt E id).take frm) 0).reverse) w := by
  intro l J Jx W hW hJ _ hY hj0
  have HF : ∀ f, Fence.wide.fn f := fun _ => trivial
  have hlb := (hwf.len hid).2
  have hCW := hC.below hW
  obtain ⟨c0, c1, c2⟩ := hCW.cells
  have HCW := Lib.hid hCW
  have HSB := Lib.hid ((hs.b hM).kpl (KpL.of (ts := []) hW (Nat.le_refl _)) (by decide) (by decide))
  have HFW := Lib.hid (backward_any HSB.out.st hwf hE h0 hid hf0 hfr)
  have HCB := Lib.hid hCW.st
  have HWF := Lib.hid hwf
  obtain ⟨t0, ht0⟩ : ∃ t, (txt E id).take frm = t := ⟨_, rfl⟩
  have HT0 : Hid (t0.length = frm ∧ frm ≤ 1152921504606846976) := Lib.hid (by rw [← ht0, List.length_take]; omega)
  rw [ht0] at HFW hY ⊢
  have HJ := Lib.hid hJ
  have HR : Hid (∀ pre x W1, J pre W1 → pre ++ [x] <+: (lzs t0 0).reverse → ∀ m, YieldAt Fence.wide m Try.prog l #[.int .i64 (x : Nat × Nat).1, .int .u8 x.2] W1 fun e W' => (e = .returned (.bool true) ∧ J (pre ++ [x]) W' ∧ KpI LtK M W1 W' ∧ W1.heap.size ≤ W'.heap.size) ∨ (e = .returned (.bool false) ∧ Jx (pre ++ [x]) W')) := Lib.hid (fun pre x W1 hj hl m => yield_anyDepth m (hY pre x W1 hj hl))
  have HJ0 := Lib.hid hj0
  clear hC hs hwf h0 hid hf0 hfr hCW ht0 hJ hY hj0 hlb hW
  refine callsIn_of_wp Try.func61 rfl trivial ?_ rfl
  simp only [Try.ntmps61, List.size_toArray, List.length_cons, List.length_nil, Nat.reduceAdd, Nat.reduceSub, Array.replicate_succ, Array.replicate_zero, List.push_toArray, List.append_toArray, List.nil_append, List.cons_append]
  gi_wp2_with fail
  refine ⟨(fun h => by cases h), callsIn_wide.2 (HFW.out.mono ?_)⟩
  rintro e w1 ⟨v, L0, rfl, hL0, hk0, hd0, b1⟩
  obtain ⟨va, vc, rfl⟩ := hL0.len
  obtain ⟨k0, hk00⟩ : ∃ k, L0.length = k := ⟨_, rfl⟩
  rw [hk00] at hL0 ⊢
  obtain ⟨gt, hgt⟩ : ∃ y, w1.heap.size = y := ⟨_, rfl⟩
  obtain ⟨w2, hw2⟩ : ∃ y, w1.alloc (.cells #[.slice va k0 vc] 102) = y := ⟨_, rfl⟩
  have x2 : CxC w2 gt (.slice va k0 vc) := by rw [← hw2, ← hgt]; exact heap_new' _ _
  have b2 : Below w1.heap.size w1 w2 := by rw [← hw2]; exact (Below.refl _ _).alloc (Nat.le_refl _) _
  have b12 := Below.after b1 b2
  obtain ⟨z, hz⟩ : ∃ y, W.heap.size = y := ⟨_, rfl⟩
  have hzw : z ≤ w2.heap.size := by rw [← hz]; exact b12.size
  have HST : Hid (BkI z gt g n0 M B most E t0 J (wkC E L0) (.int .i64 frm) w2) := Lib.hid ⟨frm, L0, _, [], rfl, rfl, x2, by rw [← hz]; exact hL0.below b2, hk0, ⟨by rw [hd0]; rfl, by rw [hd0]; exact HT0.out.1, HT0.out.2⟩, HJ.out _ _ _ HJ0.out (KpL.of b12 (Nat.le_refl _)), HSB.out.kpl (KpL.of (ts := []) b12 (Nat.le_refl _)) (by decide) (by decide), below_block b12 HCB.out, hzw⟩
  have HZ := Lib.hid hz
  have HGT : Hid (z ≤ gt) := Lib.hid (by rw [← hz, ← hgt]; exact b1.size)
  have d2 := (HCW.out.below b12).cells.2.2
  generalize wkC E L0 = wk at *
  clear hL0 hk0 hd0 b1 b2 b12 x2 hzw c0 c1 HCW HFW HSB HCB HJ0 hk00
  gi_wp2_with fail
  clear hw2 hgt d2 c2 hz
  gi_loopg [6] wk (fun k av wr => BkI z gt g n0 M B most E t0 J k av wr)
  case atStart => exact HST.out
  case round =>
    clear HST
    obtain ⟨a, L, v, pre, hk, rfl, hx, hL, hsk, ⟨hpre, hab⟩, hj, hst, hcp, hzr⟩ := hrel
    have HX := Lib.hid hx; have HL := Lib.hid hL; have HSK := Lib.hid hsk; have HPR := Lib.hid hpre; have HAB := Lib.hid hab; have HJR := Lib.hid hj; have HST := Lib.hid hst; have HCP := Lib.hid hcp; have HZR := Lib.hid hzr; have HKW := Lib.hid hk
    obtain ⟨y0, -⟩ := hx.cell
    have y1 := hcp.cell
    clear hx hsk hpre hab hj hst hcp hzr hk
    rcases List.eq_nil_or_concat L with rfl | ⟨L', c, rfl⟩
    · obtain ⟨la, lc, rfl⟩ := hL.len
      have HEND : Hid (pre = (lzs t0 0).reverse) := Lib.hid (by have h := HPR.out; rw [← h]; show pre = pre ++ []; rw [List.append_nil])
      clear hL
      gi_wp2_with fail
      go_end0
      exact ⟨⟨_, rfl⟩, .inl ⟨pre, HEND.out, HJR.out⟩⟩
    · rw [List.concat_eq_append] at hL HL HSK HPR HAB HKW
      obtain ⟨gl, n1, cap, rfl, hn1⟩ : ∃ gl n1 cap, v = .slice (some ⟨gl, 0, none⟩) (n1 + 1) cap ∧ L'.length = n1 := by
        rcases hL.shape with ⟨-, h⟩ | ⟨gl, cap, h, -, -⟩
        · simp at h
        · exact ⟨gl, L'.length, cap, by rw [h, List.length_append, List.length_singleton], rfl⟩
      have htop := HSK.out.top
      have hnb : n1 ≤ 4000000 := by have := HSK.out.len; rw [List.length_append, List.length_singleton] at this; omega
      have HTK := Lib.hid (take_any HST.out.st hE hn1 hnb HX.out HL.out htop.1 HGT.out)
      have HOC := Lib.hid htop.1
      have HPOP := Lib.hid HSK.out.pop
      have HTOP : Hid ((popC L' c).length + 3 * c.id ≤ 3 * E.length + 3) := Lib.hid (by have h1 := HSK.out.pop.2; have h2 := htop.2; omega)
      have HDN := Lib.hid (up_pop E L' c htop.1.one)
      have HWK := Lib.hid (wkC_pop E L' c htop.1.one)
      have HRL := Lib.hid (HWF.out.rule c.id htop.1.pos htop.1.le).cases
      obtain ⟨r, hr⟩ : ∃ r, (entAt E c.id).ru = r := ⟨_, rfl⟩
      rw [hr] at HTK HRL
      unfold ruV at HTK
      generalize popC L' c = P at *
      have hn2 : (0 : Int) < ((n1 + 1 : Nat) : Int) := by omega
      have HN1 := Lib.hid hn1
      clear hL htop hr hn1
      gi_wp2_with fail
      clear hn2 y0 y1
      refine ⟨(fun h => by cases h), callsIn_wide.2 (HTK.out.mono ?_)⟩
      rintro e w3 ⟨rfl, m, hm, x3, l3, k3⟩
      obtain ⟨wz, w4, hz4, hs4, kr, br, ⟨r0, r1, r2, r3, r4⟩, e0, e1, e2, e3, e4⟩ := newRu w3 r
      obtain ⟨gr, hgr⟩ : ∃ y, w3.heap.size = y := ⟨_, rfl⟩
      rw [hgr] at hs4 kr r0 r1 r2 r3 r4 e0 e1 e2 e3 e4
      obtain ⟨q0, q1, q2, q3, q4⟩ := kr.cells
      have k34 := k3.trans (KpL.of (ts := CpT) br (Nat.le_trans HZR.out k3.below.size))
      have X4 := Lib.hid (show CxC w4 gt (.slice (some ⟨gl, 0, none⟩) m cap) from below_block br x3)
      have L4 := Lib.hid (SlA.below l3 br)
      have J4 := Lib.hid (HJ.out _ _ _ HJR.out (by rw [HZ.out]; exact k34))
      have S4 := Lib.hid (HST.out.kpl k34 (by decide) (by decide))
      have C4 : Hid (CpB w4 g B) := Lib.hid (k34.cells _ (by decide) _ _ _ HCP.out)
      have Z4 : Hid (z ≤ w4.heap.size) := Lib.hid (Nat.le_trans HZR.out k34.below.size)
      have HM := Lib.hid hm
      obtain ⟨y0, yf⟩ := X4.out.cell
      clear hm x3 l3 k3 kr br k34 HTK HX HL HJR HST HCP HZR
      have HFIN : Hid (∀ (w5 : World) (v5 : Value) (Ln : List Cp), Cps z w5 v5 Ln → KpL CpT z w4 w5 → CxC w5 gt (.slice (some ⟨gl, 0, none⟩) m cap) → StkC E Ln → up E Ln = up E (L' ++ [c]) → BkI z gt g n0 M B most E t0 J (wkC E Ln) (.int .i64 a) (w5.setCell ⟨gt, 0, none⟩ v5)) := Lib.hid (by
        intro w5 v5 Ln hc hkp hx hst hd
        have kp := hkp.set (p := ⟨gt, 0, none⟩) hx (by simp) HGT.out v5
        refine ⟨a, Ln, v5, pre, rfl, rfl, ?_, SlA.setCell hc (a := ⟨gt, 0, none⟩) _ hx (by decide), hst, ⟨by rw [hd]; exact HPR.out, by rw [hd]; exact HAB.out⟩, HJ.out _ _ _ J4.out (by rw [HZ.out]; exact kp), S4.out.kpl kp (by decide) (by decide), kp.cells _ (by decide) _ _ _ C4.out, Nat.le_trans Z4.out kp.others.size⟩
        unfold CxC at hx ⊢
        exact heap_set0 _ hx)
      rcases HRL.out with ⟨hk, -, -, -, -, htx⟩ | ⟨hk, -, l0, l1, rr0, rr1, -, htx⟩ | ⟨hk, -, l0, l1, -, t2, t3, htx⟩
      · have hk1 : ((r.kind : Int) == 1) = true := by simp [hk]
        obtain ⟨m1, hm1⟩ : ∃ y, (up E P).length = y := ⟨_, rfl⟩
        have HUP : Hid (up E (L' ++ [c]) = up E P ++ [r.letter]) := Lib.hid (by rw [HDN.out, htx])
        have HAM : Hid (a = m1 + 1) := Lib.hid (by have h := HAB.out.1; rw [HUP.out, List.length_append, hm1] at h; simp at h; omega)
        have HP2 : Hid ((pre ++ [(m1, r.letter)]) ++ (lzs (up E P) 0).reverse = (lzs t0 0).reverse) := Lib.hid (by
          rw [← HPR.out, HUP.out, lzs_snoc, List.reverse_append, hm1, Nat.zero_add, List.append_assoc]; rfl)
        have HM1 := Lib.hid hm1
        obtain ⟨fn, tmps, assign, body, hy, hRR⟩ := HR.out pre (m1, r.letter) w4 J4.out ⟨_, HP2.out⟩ (n - 1)
        dsimp only at hy
        have HRR := Lib.hid hRR
        have haw : IntKind.i64.wrap ((a : Int) - 1) = (m1 : Int) := by rw [IntKind.wrap_i64]; have h1 := HAB.out.2; have h2 := HAM.out; omega
        have HLT : Hid (wkC E P < gk) := Lib.hid (by have h1 := HKW.out; have h2 := HWK.out; rw [htx] at h2; simp at h2; omega)
        clear hk hRR htx hm1
        gi_wp2_with fail
        refine ⟨(fun h => by cases h), HRR.out.mono ?_⟩
        rintro e w5 (⟨rfl, hj5, hkp, hsz⟩ | ⟨rfl, hjx⟩)
        · have X5 : Hid (CxC w5 gt (.slice (some ⟨gl, 0, none⟩) m cap)) := Lib.hid (hkp.cells _ (by decide) _ _ _ X4.out)
          have L5 := Lib.hid (SlA.keep L4.out (hkp.cells _ (by decide)))
          have S5 := Lib.hid (S4.out.kpi hkp (by decide) (by decide))
          have C5 : Hid (CpB w5 g B) := Lib.hid (hkp.cells _ (by decide) _ _ _ C4.out)
          have J5 := Lib.hid hj5
          have Z5 : Hid (z ≤ w5.heap.size) := Lib.hid (Nat.le_trans Z4.out hsz)
          clear hj5 hkp hsz hz4 hs4 r0 r1 r2 r3 r4 e0 e1 e2 e3 e4 q0 q1 q2 q3 q4 y0 yf hgr
          gi_wp2_with fail
          gi_roundg (wkC E P)
          case measure => exact HLT.out
          case rel => exact ⟨m1, P, _, pre ++ [(m1, r.letter)], rfl, rfl, X5.out, L5.out, HPOP.out.1, ⟨HP2.out, HM1.out, by have h1 := HAB.out.2; have h2 := HAM.out; omega⟩, J5.out, S5.out, C5.out, Z5.out⟩
        · have HJX := Lib.hid hjx
          clear hjx hz4 hs4 r0 r1 r2 r3 r4 e0 e1 e2 e3 e4 q0 q1 q2 q3 q4 y0 yf hgr
          gi_wp2_with fail
          refine bodyPost_ret (results_none rfl _ _ _) rfl ?_
          exact ⟨⟨_, rfl⟩, .inr ⟨pre ++ [(m1, r.letter)], ⟨_, HP2.out⟩, HJX.out⟩⟩
      · have hk1 : ((r.kind : Int) == 1) = false := by simp [hk]
        have hk2 : ((r.kind : Int) == 2) = true := by simp [hk]
        have HNX : Hid (StkC E (P ++ [⟨r.left, 1⟩, ⟨r.right, 1⟩]) ∧ up E (P ++ [⟨r.left, 1⟩, ⟨r.right, 1⟩]) = up E (L' ++ [c])) := Lib.hid (by
          have h1 := HTOP.out; have h2 := HOC.out
          have h3 := h2.le
          refine ⟨?_, ?_⟩
          · rw [show P ++ [(⟨r.left, 1⟩ : Cp), ⟨r.right, 1⟩] = (P ++ [⟨r.left, 1⟩]) ++ [⟨r.right, 1⟩] by simp]
            exact (HPOP.out.1.push ⟨l0, by dsimp only; omega, by dsimp only; omega, by dsimp only; omega⟩ (by dsimp only; omega)).push ⟨rr0, by dsimp only; omega, by dsimp only; omega, by dsimp only; omega⟩ (by rw [List.length_append, List.length_singleton]; dsimp only; omega)
          · rw [show P ++ [(⟨r.left, 1⟩ : Cp), ⟨r.right, 1⟩] = (P ++ [⟨r.left, 1⟩]) ++ [⟨r.right, 1⟩] by simp, up_snoc, up_snoc, rep_one, rep_one, HDN.out, htx, List.append_assoc])
        have HLT : Hid (wkC E (P ++ [⟨r.left, 1⟩, ⟨r.right, 1⟩]) < gk) := Lib.hid (by
          have h3 := HOC.out.le
          have p1 := (HWF.out.get r.left l0 (by omega)).2.2.1
          have p2 := (HWF.out.get r.right rr0 (by omega)).2.2.1
          have h1 := HKW.out; have h2 := HWK.out
          have h4 := wk_pair p1 p2
          rw [htx, List.length_append] at h2
          rw [show P ++ [(⟨r.left, 1⟩ : Cp), ⟨r.right, 1⟩] = (P ++ [⟨r.left, 1⟩]) ++ [⟨r.right, 1⟩] by simp, wkC_snoc, wkC_snoc]
          dsimp only
          omega)
        have HLN : Hid (P.length ≤ 3 * E.length + 3) := Lib.hid (by have := HTOP.out; omega)
        obtain ⟨Wc, hWc⟩ : ∃ w, w4.alloc (.cells #[.int .i64 r.left, .int .i64 1, .int .i64 r.right, .int .i64 1] 107) = w := ⟨_, rfl⟩
        have lc : Cps w4.heap.size Wc (.slice (some ⟨w4.heap.size, 0, none⟩) 2 2) [⟨r.left, 1⟩, ⟨r.right, 1⟩] := by rw [← hWc]; exact SlA.lit (l := [⟨r.left, 1⟩, ⟨r.right, 1⟩]) encC_len rfl (by simp; unfold maxLen; omega)
        have bc : Below w4.heap.size w4 Wc := by rw [← hWc]; exact (Below.refl _ _).alloc (Nat.le_refl _) _
        have HLC := Lib.hid lc
        have HSC := Lib.hid (SlA.below L4.out bc)
        have HZC : Hid (z ≤ Wc.heap.size) := Lib.hid (Nat.le_trans Z4.out bc.size)
        have HKC : Hid (KpL CpT z w4 Wc) := Lib.hid (KpL.of bc Z4.out)
        have HXC : Hid (CxC Wc gt (.slice (some ⟨gl, 0, none⟩) m cap)) := Lib.hid (below_block bc X4.out)
        clear lc bc hk l0 l1 htx rr0 rr1
        gi_wp2_with (
          gi_at_builtin
          refine wp_catInO (l2 := [⟨r.left, 1⟩, ⟨r.right, 1⟩]) elemC encC_len encC_one rfl _ _ rfl rfl HSC.out rfl rfl HLC.out (by have := HLN.out; simp; omega) HZC.out ?_
          intro v5 w5 hS5 hg5 hb5
          obtain ⟨va5, vc5, rfl⟩ := hS5.len
          obtain ⟨nn, hnn⟩ : ∃ y, (P ++ [(⟨r.left, 1⟩ : Cp), ⟨r.right, 1⟩]).length = y := ⟨_, rfl⟩
          rw [hnn] at hS5 ⊢
          have HX5 : Hid (CxC w5 gt (.slice (some ⟨gl, 0, none⟩) m cap)) := Lib.hid (keep_own HSC.out hg5 (by decide) _ _ _ HXC.out)
          have HKP := Lib.hid (HKC.out.trans (KpL.own (ts := CpT) HSC.out hg5 HZC.out (by simp)))
          have HL5 := Lib.hid hS5
          obtain ⟨z0, zf⟩ := HX5.out.cell
          clear hS5 hg5 hb5 hnn)
        gi_roundg (wkC E (P ++ [⟨r.left, 1⟩, ⟨r.right, 1⟩]))
        case measure => exact HLT.out
        case rel => exact HFIN.out _ _ _ HL5.out HKP.out HX5.out HNX.out.1 HNX.out.2
      · have hk1 : ((r.kind : Int) == 1) = false := by simp [hk]
        have hk2 : ((r.kind : Int) == 2) = false := by simp [hk]
        have hk3 : ((r.kind : Int) == 3) = true := by simp [hk]
        have HNX : Hid (StkC E (P ++ [⟨r.left, r.times⟩]) ∧ up E (P ++ [⟨r.left, r.times⟩]) = up E (L' ++ [c])) := Lib.hid (by
          have h1 := HTOP.out; have h2 := HOC.out
          have h3 := h2.le
          refine ⟨HPOP.out.1.push ⟨l0, by dsimp only; omega, by dsimp only; omega, by dsimp only; omega⟩ (by dsimp only; omega), ?_⟩
          rw [up_snoc, HDN.out, htx])
        have HLT : Hid (wkC E (P ++ [⟨r.left, r.times⟩]) < gk) := Lib.hid (by
          have h3 := HOC.out.le
          have p1 := (HWF.out.get r.left l0 (by omega)).2.2.1
          have h1 := HKW.out; have h2 := HWK.out
          have h4 := wk_power t2 p1
          rw [htx, rep_length] at h2
          rw [wkC_snoc]
          dsimp only
          omega)
        have HLN : Hid (P.length ≤ 3 * E.length + 3) := Lib.hid (by have := HTOP.out; omega)
        obtain ⟨Wc, hWc⟩ : ∃ w, w4.alloc (.cells #[.int .i64 r.left, .int .i64 r.times] 107) = w := ⟨_, rfl⟩
        have lc : Cps w4.heap.size Wc (.slice (some ⟨w4.heap.size, 0, none⟩) 1 1) [⟨r.left, r.times⟩] := by rw [← hWc]; exact SlA.lit (l := [⟨r.left, r.times⟩]) encC_len rfl (by simp; unfold maxLen; omega)
        have bc : Below w4.heap.size w4 Wc := by rw [← hWc]; exact (Below.refl _ _).alloc (Nat.le_refl _) _
        have HLC := Lib.hid lc
        have HSC := Lib.hid (SlA.below L4.out bc)
        have HZC : Hid (z ≤ Wc.heap.size) := Lib.hid (Nat.le_trans Z4.out bc.size)
        have HKC : Hid (KpL CpT z w4 Wc) := Lib.hid (KpL.of bc Z4.out)
        have HXC : Hid (CxC Wc gt (.slice (some ⟨gl, 0, none⟩) m cap)) := Lib.hid (below_block bc X4.out)
        clear lc bc hk l0 l1 htx t2 t3
        gi_wp2_with (
          gi_at_builtin
          refine wp_catInO (l2 := [⟨r.left, r.times⟩]) elemC encC_len encC_one rfl _ _ rfl rfl HSC.out rfl rfl HLC.out (by have := HLN.out; simp; omega) HZC.out ?_
          intro v5 w5 hS5 hg5 hb5
          obtain ⟨va5, vc5, rfl⟩ := hS5.len
          obtain ⟨nn, hnn⟩ : ∃ y, (P ++ [(⟨r.left, r.times⟩ : Cp)]).length = y := ⟨_, rfl⟩
          rw [hnn] at hS5 ⊢
          have HX5 : Hid (CxC w5 gt (.slice (some ⟨gl, 0, none⟩) m cap)) := Lib.hid (keep_own HSC.out hg5 (by decide) _ _ _ HXC.out)
          have HKP := Lib.hid (HKC.out.trans (KpL.own (ts := CpT) HSC.out hg5 HZC.out (by simp)))
          have HL5 := Lib.hid hS5
          obtain ⟨z0, zf⟩ := HX5.out.cell
          clear hS5 hg5 hb5 hnn)
        gi_roundg (wkC E (P ++ [⟨r.left, r.times⟩]))
        case measure => exact HLT.out
        case rel => exact HFIN.out _ _ _ HL5.out HKP.out HX5.out HNX.out.1 HNX.out.2
end M
end Go.Proofs.Ytpjcfepngjpfbaa
namespace Go.Proofs.Ytpjcfepngjpfbaa
open Go.RowKit Go.Lib
namespace M
attribute [local go_sem] Oper.semAt_some
set_option maxRecDepth 100000 in
theorem seqL_nilB (w : World) : SeqL w (.func (.func 60) #[] #[]) [] := by
  refine ⟨60, #[], rfl, enters_of Try.func60 (by kernel_rfl) rfl, fun n => stops_nil n fun l W => ?_⟩
  refine callsIn_of_wp Try.func60 rfl trivial ?_ rfl
  simp only [Try.ntmps60, List.size_toArray, List.length_cons, List.length_nil, Nat.reduceAdd, Nat.reduceSub, Array.replicate_succ, Array.replicate_zero, List.push_toArray, List.append_toArray, List.nil_append, List.cons_append]
  gi_wp2_with fail
  go_end0
  exact ⟨⟨_, rfl⟩, rfl⟩
set_option maxRecDepth 100000 in
theorem back_seq {n0 B most : Nat} {W : World} {E : List En} (hs : StAt n0 W B most E) (hwf : Wf E) (hE : E.length ≤ 1048576) {id frm : Nat} (hid : id ≤ E.length) (hfr : frm ≤ (txt E id).length) :
    Calls Try.prog 26 #[.pointer (some ⟨B, 0, none⟩), .int .i64 id, .int .i64 frm] W fun e w' => ∃ v, e = .returned v ∧ SeqL w' v (lzs ((txt E id).take frm) 0).reverse ∧ Below W.heap.size W w' := by
  by_cases h : 0 < frm
  · refine (back_some hs hwf hE hid h hfr).mono ?_
    rintro e w' ⟨rfl, hl, hb⟩
    refine ⟨_, rfl, ⟨_, _, rfl, enters_of Try.func61 (by kernel_rfl) rfl, fun n => ?_⟩, hb⟩
    have h0 : 0 < id := Nat.pos_of_ne_zero (fun e => by subst e; rw [txt_zero] at hfr; simp at hfr; omega)
    exact back_stops n (M := w'.heap.size) hl (hs.below hb) hwf hE h0 hid h hfr (Nat.le_refl _)
  · have he : (txt E id).take frm = [] := by rw [show frm = 0 by omega]; rfl
    rw [he]
    refine (back_out (W := W) (B := B) (id := id) (fun w hw => known1_any (hs.below hw) hid hE) (frm := frm) (.inr (.inl ⟨rfl, by omega⟩))).mono ?_
    rintro e w' ⟨rfl, hb⟩
    exact ⟨_, rfl, seqL_nilB _, hb⟩
theorem lzs_get : ∀ (l : List Nat) (a i : Nat) (h : i < (lzs l a).length), (lzs l a)[i] = (a + i, l[i]'(by rw [lzs_length] at h; exact h))
  | b :: l, a, 0, h => rfl
  | b :: l, a, i + 1, h => by
    show (lzs l (a + 1))[i]'_ = _
    rw [lzs_get l (a + 1) i]
    simp only [List.getElem_cons_succ, Prod.mk.injEq, and_true]; omega
theorem pre_next {α : Type} {pre ys : List α} {x : α} (h : pre ++ [x] <+: ys) : ∃ hl : pre.length < ys.length, ys[pre.length] = x := by
  have hl := h.length_le
  rw [List.length_append, List.length_singleton] at hl
  refine ⟨by omega, ?_⟩
  have := h.getElem (i := pre.length) (by simp)
  rw [← this]; simp
/-- The next letter behind an offset. -/
theorem lzs_next {t : List Nat} {fr : Nat} {pre : List (Nat × Nat)} {x : Nat × Nat} (h : pre ++ [x] <+: lzs (t.drop fr) fr) : x.1 = fr + pre.length ∧ fr + pre.length < t.length ∧ t[fr + pre.length]? = some x.2 := by
  obtain ⟨hl, hx⟩ := pre_next h
  rw [lzs_get] at hx
  rw [lzs_length, List.length_drop] at hl
  have hlt : fr + pre.length < t.length := by omega
  rw [← hx]
  refine ⟨rfl, hlt, ?_⟩
  dsimp only
  rw [List.getElem_drop, List.getElem?_eq_getElem hlt]
/-- The next letter before an offset. -/
theorem lzs_prev {t : List Nat} {fr : Nat} (hf : fr ≤ t.length) {pre : List (Nat × Nat)} {x : Nat × Nat} (h : pre ++ [x] <+: (lzs (t.take fr) 0).reverse) : pre.length < fr ∧ x.1 = fr - 1 - pre.length ∧ t[fr - 1 - pre.length]? = some x.2 := by
  obtain ⟨hl, hx⟩ := pre_next h
  have hlen : (lzs (t.take fr) 0).length = fr := by rw [lzs_length, List.length_take]; omega
  rw [List.length_reverse, hlen] at hl
  rw [List.getElem_reverse, lzs_get] at hx
  rw [← hx]
  refine ⟨hl, by dsimp only; omega, ?_⟩
  have hlt : fr - 1 - pre.length < t.length := by omega
  dsimp only
  rw [List.getElem_take, List.getElem?_eq_getElem hlt]
  congr 2
  omega
end M
end Go.Proofs.Ytpjcfepngjpfbaa
