/- What replace computes. No walk.
patch.replace: the walk.
What collect's loop keeps. No walk.
patch.collect: the walk.
patch.Compose: the walk.
AnchorComposes: the walk. -/
import Derived.Test.YtplccefjljdjnaaCmA
import Derived.Test.YtplccefjljdjnaaCmC
set_option linter.unusedVariables false
set_option linter.unusedSimpArgs false
namespace Go.Proofs.Ytplccefjljdjnaa
open Go.RowKit
namespace M
/-- A piece that lies within its text. -/
def PcQ (E : List En) (len : Nat) (x : Pcx) : Prop := x.t ≤ E.length ∧ (entAt E x.t).even = true ∧ (x.t ≠ 0 → x.f + x.n ≤ (txt E x.t).length) ∧ (x.t = 0 → x.f + x.n ≤ len)
def PcL (E : List En) (len : Nat) (l : List Pcx) : Prop := ∀ y ∈ l, PcQ E len y
theorem PcQ.part {E : List En} {len : Nat} {x : Pcx} (h : PcQ E len x) (f n : Nat) (h2 : f + n ≤ x.f + x.n) : PcQ E len ⟨x.t, f, n⟩ :=
  ⟨h.1, h.2.1, fun ht => Nat.le_trans h2 (h.2.2.1 ht), fun ht => Nat.le_trans h2 (h.2.2.2 ht)⟩
theorem PcL.b {E : List En} {len : Nat} {l : List Pcx} (hwf : WfD E) (hE : E.length ≤ 1048576) (hl : len ≤ 1152921504606846976) (h : PcL E len l) : PcB l := fun x hx => by
  obtain ⟨h1, -, h3, h4⟩ := h x hx
  refine ⟨by omega, ?_⟩
  by_cases ht : x.t = 0
  · have := h4 ht; omega
  · have := h3 ht
    have := (hwf.wf.len h1).2
    have h5 : (txt E x.t).length ≤ 1152921504606846976 := this
    omega
theorem readF_q {E : List En} {len : Nat} : ∀ (l : List Pcx) (u a T : Nat), UOk l u → PcL E len l → PcL E len (readF l u a T).em ∧ PcL E len (readF l u a T).l
  | [], _, _, _, _, _ => ⟨fun y hy => by simp [readF] at hy, fun y hy => by simp [readF] at hy⟩
  | x :: l, u, a, T, h, hq => by
    have hu : u ≤ x.n := h
    have hle : rdN x u a T ≤ x.n - u := Nat.min_le_left _ _
    have hx := hq x (by simp)
    have hl : PcL E len l := fun y hy => hq y (by simp [hy])
    have he : PcL E len (rdE x u a T) := by
      unfold rdE
      split
      · intro y hy; simp at hy; subst hy; exact hx.part _ _ (by omega)
      · intro y hy; simp at hy
    unfold readF
    by_cases ha : a < T
    · rw [if_pos ha]
      by_cases hf : u + rdN x u a T = x.n
      · rw [if_pos hf]
        obtain ⟨i1, i2⟩ := readF_q l 0 (a + rdN x u a T) T (by cases l <;> simp [UOk]) hl
        exact ⟨fun y hy => (List.mem_append.1 hy).elim (he y) (i1 y), i2⟩
      · rw [if_neg hf]; exact ⟨he, hq⟩
    · rw [if_neg ha]; exact ⟨fun y hy => by simp at hy, hq⟩
/-- Where replace stands behind j changes. -/
structure RepS (E : List En) (len : Nat) (l : List Pcx) (L : List Chg) (j : Nat) (em lr : List Pcx) (u a : Nat) : Prop where
  uok : UOk lr u
  dr : (exA lr).drop u = (exA l).drop a
  al : a ≤ (exA l).length
  qe : PcL E len em
  ql : PcL E len lr
  ln : em.length + lr.length ≤ l.length + 3 * j
  pos : ∀ y ∈ em, 0 < y.n
  eq : exA em ++ patG (insX E) (exA l) a (L.drop j) = patG (insX E) (exA l) 0 L
  fm : ∃ last : Int, formF (exA l).length last (L.drop j) = true ∧ (a : Int) ≤ last + 1
theorem RepS.zero {E : List En} {len : Nat} {l : List Pcx} {L : List Chg} (h : PcL E len l) (hf : formF (exA l).length (-1) L = true) : RepS E len l L 0 [] l 0 0 :=
  ⟨by cases l <;> simp [UOk], rfl, Nat.zero_le _, fun y hy => by simp at hy, h, by simp, fun y hy => by simp at hy, by simp [exA], -1, hf, by omega⟩
/-- What a change puts in, as a list of pieces. -/
def insP (E : List En) (c : Chg) : List Pcx := if 0 < (txt E c.id).length then [⟨c.id, 0, (txt E c.id).length⟩] else []
theorem insP_ex (E : List En) (c : Chg) : exA (insP E c) = insX E c := by
  unfold insP insX
  split
  · show exP _ ++ [] = _
    rw [List.append_nil]
  · rw [show (txt E c.id).length = 0 by omega]; rfl
theorem RepS.step {E : List En} {len : Nat} {l : List Pcx} {L : List Chg} {j : Nat} {em lr : List Pcx} {u a : Nat} (h : RepS E len l L j em lr u a) (hT : Txs E L) (hj : j < L.length) (x y : Nat) (hx : L[j].pos = (x : Int)) (hy : L[j].pos + L[j].n = (y : Int)) :
    RepS E len l L (j + 1) (em ++ (readF lr u a x).em ++ insP E L[j]) (readF (readF lr u a x).l (readF lr u a x).u (readF lr u a x).a y).l (readF (readF lr u a x).l (readF lr u a x).u (readF lr u a x).a y).u (readF (readF lr u a x).l (readF lr u a x).u (readF lr u a x).a y).a ∧ UOk (readF lr u a x).l (readF lr u a x).u ∧ (readF lr u a x).em.length + (readF lr u a x).l.length ≤ lr.length + 1 ∧ (readF lr u a x).a ≤ x := by
  obtain ⟨uok, dr, al, qe, ql, ln, pos, eq, last, fm, fl⟩ := h
  have hd := List.drop_eq_getElem_cons hj
  rw [hd] at eq fm
  have ht := hT L[j] (List.getElem_mem hj)
  generalize L[j] = c at *
  obtain ⟨g1, g2, g3, g4, g5, g6⟩ := chg_form fm
  obtain ⟨s1, s2, s3, s4, s5, s6⟩ := readF_spec lr u a x uok
  obtain ⟨q1, q2⟩ := readF_q lr u a x uok ql
  have hln : (exA lr).length - u = (exA l).length - a := by rw [← List.length_drop, dr, List.length_drop]
  have ha1 : (readF lr u a x).a = x := by rw [s3, hln]; omega
  generalize readF lr u a x = r at *
  obtain ⟨t1, t2, t3, t4, t5, t6⟩ := readF_spec r.l r.u r.a y s6
  obtain ⟨p1, p2⟩ := readF_q r.l r.u r.a y s6 q2
  have hdx : (exA r.l).drop r.u = (exA l).drop x := by rw [s2, dr, List.drop_drop]; congr 1; omega
  have hlx : (exA r.l).length - r.u = (exA l).length - x := by rw [← List.length_drop, hdx, List.length_drop]
  have ha2 : (readF r.l r.u r.a y).a = y := by rw [t3, hlx, ha1]; omega
  generalize readF r.l r.u r.a y = r2 at *
  have hip : (insP E c).length ≤ 1 := by unfold insP; split <;> simp
  refine ⟨⟨t6, ?_, by omega, ?_, p2, ?_, ?_, ?_, c.pos + c.n, g5, by omega⟩, s6, s5, by omega⟩
  · rw [t2, hdx, List.drop_drop, ha1, ha2]; congr 1; omega
  · intro z hz
    rcases List.mem_append.1 hz with hz | hz
    · exact (List.mem_append.1 hz).elim (qe z) (q1 z)
    · unfold insP at hz
      split at hz
      · simp at hz; subst hz
        refine ⟨ht.1, ht.2, fun _ => by simp, fun h0 => ?_⟩
        rename_i hp
        have h0 : c.id = 0 := h0
        rw [h0, txt_zero] at hp; simp at hp
      · simp at hz
  · rw [List.length_append, List.length_append]; omega
  · intro z hz
    rcases List.mem_append.1 hz with hz | hz
    · exact (List.mem_append.1 hz).elim (pos z) (s4 z)
    · unfold insP at hz
      split at hz
      · simp at hz; subst hz; assumption
      · simp at hz
  · rw [exA_app, exA_app, insP_ex, s1, dr, ← eq, ha2]
    show _ = exA em ++ (((exA l).drop a).take (c.pos.toNat - a) ++ (insX E c ++ patG (insX E) (exA l) (c.pos + c.n).toNat (L.drop (j + 1))))
    rw [show c.pos.toNat = x by omega, show (c.pos + c.n).toNat = y by omega, List.append_assoc, List.append_assoc]
theorem RepS.last {E : List En} {len : Nat} {l : List Pcx} {L : List Chg} {em lr : List Pcx} {u a : Nat} (h : RepS E len l L L.length em lr u a) (T : Nat) (hT : (exA l).length ≤ T) :
    exA (em ++ (readF lr u a T).em) = patG (insX E) (exA l) 0 L ∧ PcL E len (em ++ (readF lr u a T).em) ∧ (∀ y ∈ em ++ (readF lr u a T).em, 0 < y.n) ∧ (em ++ (readF lr u a T).em).length ≤ l.length + 3 * L.length + 1 := by
  obtain ⟨uok, dr, al, qe, ql, ln, pos, eq, last, fm, fl⟩ := h
  obtain ⟨s1, s2, s3, s4, s5, s6⟩ := readF_spec lr u a T uok
  obtain ⟨q1, q2⟩ := readF_q lr u a T uok ql
  refine ⟨?_, fun z hz => (List.mem_append.1 hz).elim (qe z) (q1 z), fun z hz => (List.mem_append.1 hz).elim (pos z) (s4 z), by rw [List.length_append]; omega⟩
  rw [exA_app, s1, dr, ← eq, List.drop_of_length_le (Nat.le_refl _)]
  show _ = exA em ++ (exA l).drop a
  rw [List.take_of_length_le (by rw [List.length_drop]; omega)]
theorem bcell {A B : World} (hb : Below A.heap.size A B) {p : Addr} {v : Value} (h : A.cell? p = some v) : B.cell? p = some v := by
  rw [hb.cell ?_]
  · exact h
  · apply Nat.lt_of_not_le
    intro hh
    have e : A.heap[p.block]? = none := Array.getElem?_eq_none hh
    simp [World.cell?, e] at h
theorem RowPc.below {W : World} {v : Value} {l : List Pcx} (h : RowPc W v l) {w : World} (hb : Below W.heap.size W w) : RowPc w v l := by
  obtain ⟨a, cap, rfl, h1, h2, h3⟩ := h
  refine ⟨a, cap, rfl, h1, h2, fun i hi => ?_⟩
  obtain ⟨b, rfl, c0, c1, c2⟩ := h3 i hi
  exact ⟨b, rfl, bcell hb c0, bcell hb c1, bcell hb c2⟩
end M
end Go.Proofs.Ytplccefjljdjnaa
namespace Go.Proofs.Ytplccefjljdjnaa
open Go.RowKit Go.Lib
namespace M
attribute [local go_sem] Oper.semAt_some
/-- What replace leaves. -/
def ReplP (W : World) (E : List En) (len : Nat) (l : List Pcx) (L : List Chg) (e : Ending) (w' : World) : Prop :=
  ∃ v' l', e = .returned (.tuple #[v', .nilIface]) ∧ Pcs W.heap.size w' v' l' ∧ exA l' = patG (insX E) (exA l) 0 L ∧ PcL E len l' ∧ (∀ y ∈ l', 0 < y.n) ∧ l'.length ≤ l.length + 3 * L.length + 1 ∧ Below W.heap.size W w'
theorem newRd (w : World) (v : Value) : ∃ wz w2, w.alloc (.cells #[.slice none 0 0, .int .i64 0, .int .i64 0] 159) = wz ∧
    ((wz.setCell ⟨w.heap.size, 0, none⟩ v).setCell ⟨w.heap.size, 1, none⟩ (.int .i64 0)).setCell ⟨w.heap.size, 2, none⟩ (.int .i64 0) = w2 ∧ RdC w2 w.heap.size v 0 0 ∧ Below w.heap.size w w2 ∧
    (wz.cell? ⟨w.heap.size, 0, none⟩ = some (.slice none 0 0) ∧ wz.cell? ⟨w.heap.size, 1, none⟩ = some (.int .i64 0) ∧ wz.cell? ⟨w.heap.size, 2, none⟩ = some (.int .i64 0)) ∧ (wz.frozen? ⟨w.heap.size, 0, none⟩ = false ∧ wz.frozen? ⟨w.heap.size, 1, none⟩ = false ∧ wz.frozen? ⟨w.heap.size, 2, none⟩ = false) := by
  have k0 : RdC (w.alloc (.cells #[.slice none 0 0, .int .i64 0, .int .i64 0] 159)) w.heap.size (.slice none 0 0) 0 0 := heap_new' _ _
  have b0 : Below w.heap.size w (w.alloc (.cells #[.slice none 0 0, .int .i64 0, .int .i64 0] 159)) := (Below.refl _ _).alloc (Nat.le_refl _) _
  exact ⟨_, _, rfl, rfl, ((k0.setV v).setU 0).setA 0, ((b0.setCell (p := ⟨w.heap.size, 0, none⟩) (Nat.le_refl _) _).setCell (p := ⟨w.heap.size, 1, none⟩) (Nat.le_refl _) _).setCell (p := ⟨w.heap.size, 2, none⟩) (Nat.le_refl _) _, ⟨k0.cells.1, k0.cells.2.1, k0.cells.2.2.1⟩, k0.cells.2.2.2⟩
set_option maxRecDepth 100000 in
set_option maxHeartbeats 8000000 in
theorem repl_any {n0 B most b0 len : Nat} {W : World} {E : List En} (hs : StAt n0 W B most E) (hwf : WfD E) (hE : E.length ≤ 1048576) {vl : Value} {l : List Pcx} (hrow : RowPc W vl l) (hq : PcL E len l) (hl : len ≤ 1152921504606846976) (hll : l.length ≤ 1000) {v : Value} {L : List Chg} (hC : Chs b0 W v L) (hT : Txs E L) (hLb : L.length ≤ 100) (hf : formF (exA l).length (-1) L = true) (hex : (exA l).length ≤ 1152921504606846976) :
    Calls Try.prog 65 #[.pointer (some ⟨B, 0, none⟩), vl, v] W (ReplP W E len l L) := by
  have HMEM := Lib.hid (formF_mem L (-1) hf)
  obtain ⟨va, vc, rfl⟩ := hC.len
  obtain ⟨wz, w2, hz, hst1, kr, bw, ⟨p0, p1, p2⟩, q0, q1, q2⟩ := newRd W vl
  obtain ⟨gr, hgr⟩ : ∃ g, W.heap.size = g := ⟨_, rfl⟩
  rw [hgr] at hst1 kr p0 p1 p2 q0 q1 q2
  have HS := Lib.hid hs; have HWF := Lib.hid hwf; have HC := Lib.hid hC; have HT := Lib.hid hT; have HE := Lib.hid hE; have HLB := Lib.hid (And.intro hLb hll); have HEX := Lib.hid (And.intro hex hl)
  have HG := Lib.hid hgr
  have HI0 : Hid (RdC w2 gr vl 0 0 ∧ RepS E len l L 0 [] l 0 0 ∧ (∀ w, BX gr W.heap.size w2 w → RowPc w vl l) ∧ Below W.heap.size W w2) := Lib.hid ⟨kr, .zero hq hf, fun w hw => hrow.below (bw.trans (hw.below (Nat.le_of_eq hgr))), bw⟩
  obtain ⟨la, lc, rfl, -⟩ := hrow
  clear hs hwf hC hT hE hLb hll hf hq hl hex kr bw
  go_enter Try.func65, Try.ntmps65
  go_wp2_with fail
  clear hz hst1 p0 p1 p2 q0 q1 q2 hgr
  go_loopw [8, 18] (fun p c wr => ∃ (j : Nat) (em lr : List Pcx) (u a : Nat) (sa : Option Addr) (sc : Nat), j ≤ L.length ∧ c = .int .i64 j ∧ Pcs W.heap.size wr p em ∧ RdC wr gr (.slice sa lr.length sc) u a ∧ (∀ w, BX gr W.heap.size wr w → RowPc w (.slice sa lr.length sc) lr) ∧ RepS E len l L j em lr u a ∧ Below W.heap.size W wr) (fun _ c _ => L.length - (intOf c).toNat)
  case atStart =>
    obtain ⟨h1, h2, h3, h4⟩ := HI0.out
    exact ⟨0, [], l, 0, 0, la, lc, Nat.zero_le _, rfl, SlA.nil _ _ _ _ _, h1, h3, h2, h4⟩
  case round =>
    obtain ⟨j, em, lr, u, a, sa, sc, hj, rfl, hem, hR, hrow, hS, hbw⟩ := hrel
    obtain ⟨pa, pc, hpv⟩ := hem.len
    obtain ⟨pn, hpn⟩ : ∃ n, em.length = n := ⟨_, rfl⟩
    rw [hpn] at hpv
    subst hpv
    have HLN : Hid (em.length + lr.length ≤ 1400) := Lib.hid (by have := hS.ln; have := HLB.out; omega)
    have HPC := Lib.hid (hS.ql.b HWF.out HE.out HEX.out.2)
    have HBW := Lib.hid hbw
    have HAL : Hid (a ≤ 1152921504606846976) := Lib.hid (Nat.le_trans hS.al HEX.out.1)
    by_cases hlt : j < L.length
    · have hlt2 : (j : Int) < (L.length : Int) := by omega
      obtain ⟨g, cap, e1, -, -, hcc⟩ := Chs.at (HC.out.below hbw) hlt
      simp only [Value.slice.injEq] at e1
      obtain ⟨rfl, -, rfl⟩ := e1
      obtain ⟨m0, m1, m2⟩ := hcc wr (Below.refl _ _) j hlt
      have hmem := HMEM.out _ (List.getElem_mem hlt)
      have hct := HT.out _ (List.getElem_mem hlt)
      have hst := fun x y h1 h2 => hS.step HT.out hlt x y h1 h2
      have HJ := Lib.hid hlt
      have hj100 : j ≤ 100 := by have := HLB.out; omega
      generalize L[j] = c at *
      obtain ⟨cx, hcx⟩ : ∃ n : Nat, c.pos = (n : Int) := ⟨c.pos.toNat, by omega⟩
      obtain ⟨cy, hcy⟩ : ∃ n : Nat, c.pos + c.n = (n : Int) := ⟨(c.pos + c.n).toNat, by omega⟩
      obtain ⟨n1, n2, n3, n4⟩ := hst cx cy hcx hcy
      obtain ⟨r1, hr1⟩ : ∃ r, readF lr u a cx = r := ⟨_, rfl⟩
      rw [hr1] at n1 n2 n3 n4
      have HR1 := Lib.hid hr1
      obtain ⟨r2, hr2⟩ : ∃ r, readF r1.l r1.u r1.a cy = r := ⟨_, rfl⟩
      rw [hr2] at n1
      have HR2 := Lib.hid hr2
      have HN := Lib.hid (And.intro n1 (And.intro n2 (And.intro n3 n4)))
      have hw1 : IntKind.i64.wrap (c.pos + c.n) = (cy : Int) := by rw [IntKind.wrap_i64]; have := HEX.out.1; omega
      have hq1 : PcL E len r1.l := by rw [← hr1]; exact (readF_q lr u a cx hS.uok hS.ql).2
      have HPC1 := Lib.hid (hq1.b HWF.out HE.out HEX.out.2)
      obtain ⟨wz, w2, hz, hst1, kc, bw, ⟨p0, p1, p2⟩, q0, q1, q2⟩ := newCh wr c
      obtain ⟨gc, hgc⟩ : ∃ g, wr.heap.size = g := ⟨_, rfl⟩
      rw [hgc] at hst1 kc p0 p1 p2 q0 q1 q2
      obtain ⟨x0, x1, x2⟩ := kc.cells
      have HKC := Lib.hid kc
      have HB2 : Hid (Below W.heap.size W w2) := Lib.hid (hbw.trans (bw.mono hbw.size))
      have HSZ := Lib.hid (psize_any (HS.out.below HB2.out) hct.1 HE.out)
      have htx : (entAt E c.id).w.len = (txt E c.id).length := by
        have h := (HWF.out.wf.len hct.1).1
        rw [h]; rfl
      rw [htx] at HSZ
      obtain ⟨tn, htn⟩ : ∃ n, (txt E c.id).length = n := ⟨_, rfl⟩
      rw [htn] at HSZ
      have HTN := Lib.hid htn
      have HUOK := Lib.hid hS.uok
      have HGC : Hid (gr ≠ gc) := Lib.hid (by have := (Array.getElem?_eq_some_iff.1 hR).1; omega)
      have HE2 := Lib.hid (show Pcs W.heap.size w2 (.slice pa pn pc) em from hem.below bw)
      have HRR2 := Lib.hid (show RdC w2 gr (.slice sa lr.length sc) u a from below_block bw hR)
      have HROW := Lib.hid (show ∀ w, BX gr W.heap.size w2 w → RowPc w (.slice sa lr.length sc) lr from fun w hw => hrow w ((BX.of (bw.mono hbw.size)).trans hw))
      have HCX := Lib.hid (And.intro hcx hcy)
      rw [hcx] at hst1 m0 x0 hw1
      have hmn : c.n = ((cy - cx : Nat) : Int) ∧ cx ≤ cy := by omega
      have HMN := Lib.hid hmn
      have HCB := Lib.hid (show cx ≤ 1152921504606846976 ∧ cy ≤ 1152921504606846976 by have := HEX.out; omega)
      clear hem hR hrow hS hbw kc bw htx htn hmem hct hst hr1 hr2 n1 n2 n3 n4 hq1 hcc hcx hcy hmn
      go_wp2_with fail
      clear hz hst1 p0 p1 p2 q0 q1 q2 m0 m1 m2 hgc
      refine HSZ.out.mono ?_; rintro e w3 ⟨rfl, b3⟩
      have HB3 : Hid (Below W.heap.size W w3) := Lib.hid (HB2.out.trans (b3.mono HB2.out.size))
      have HK3 := Lib.hid (show ChC w3 gc c from below_block b3 HKC.out)
      obtain ⟨x0', x1', x2'⟩ := HK3.out.cells
      rw [HCX.out.1] at x0'
      have HRD := Lib.hid (read_any (lo2 := W.heap.size) (lo := W.heap.size) (p := gr) (W := w3) HB3.out.size (Nat.le_refl _) (below_block b3 HRR2.out) (fun w hw => HROW.out w ((BX.of (b3.mono HB2.out.size)).trans hw)) HUOK.out HPC.out (HE2.out.below b3) cx (by have := HCB.out; omega) (by have := HAL.out; omega) (by have := HLN.out; omega))
      unfold ReadP at HRD
      rw [HR1.out] at HRD
      clear b3 x0 x1 x2
      go_wp2_with fail
      refine HRD.out.mono ?_
      rintro e w4 ⟨v4, vt4, rfl, hR4, hrow4, hem4, hot4, hbx4⟩
      have HB4 : Hid (Below W.heap.size W w4) := Lib.hid (HB3.out.trans (hbx4.below (Nat.le_of_eq HG.out)))
      have HK4 := Lib.hid (show ChC w4 gc c from hot4.cells HK3.out (by decide))
      have hlm : (em ++ r1.em).length + r1.l.length ≤ 1402 := by rw [List.length_append]; have := HN.out.2.2.1; have := HLN.out; omega
      have HLM := Lib.hid hlm
      have HRD2 := Lib.hid (read_any (lo2 := W.heap.size) (lo := w4.heap.size) (p := gr) (W := w4) (Nat.le_refl _) HB4.out.size hR4 hrow4 HN.out.2.1 HPC1.out (SlA.nil _ _ _ _ _) cy (by have := HCB.out; omega) (by have := HN.out.2.2.2; have := HCB.out; omega) (by rw [List.length_append] at hlm; simp only [List.length_nil]; omega))
      unfold ReadP at HRD2
      rw [HR2.out] at HRD2
      obtain ⟨z0, z1, z2⟩ := HK4.out.cells
      rw [HCX.out.1] at z0
      obtain ⟨a4, c4, rfl⟩ := hem4.len
      obtain ⟨n4, hn4⟩ : ∃ n, (em ++ r1.em).length = n := ⟨_, rfl⟩
      rw [hn4] at hem4 ⊢
      have HN4 := Lib.hid hn4
      have HE4 := Lib.hid hem4; have HR4 := Lib.hid hR4
      clear hR4 hrow4 hem4 hot4 hbx4 hlm hn4 HRD x0' x1' x2'
      go_wp2_with fail
      refine HRD2.out.mono ?_
      rintro e w5 ⟨v5, vt5, rfl, hR5, hrow5, -, hot5, hbx5⟩
      have HB5 : Hid (Below W.heap.size W w5) := Lib.hid (HB4.out.trans ((hbx5.mono HB4.out.size).below (Nat.le_of_eq HG.out)))
      have HK5 := Lib.hid (show ChC w5 gc c from hot5.cells HK4.out (by decide))
      have hE5 : Pcs W.heap.size w5 (.slice a4 n4 c4) (em ++ r1.em) := HE4.out.keep (fun k cs fz e => (hbx5.block k (Array.getElem?_eq_some_iff.1 e).1 (fun e' => by
        subst e'
        have h := HR4.out
        unfold RdC at h
        rw [h] at e; cases e)).trans e)
      have HE5 := Lib.hid hE5
      have HR5 := Lib.hid hR5; have HROW5 := Lib.hid hrow5
      have hlo5 : W.heap.size ≤ w5.heap.size := HB5.out.size
      obtain ⟨y0, y1, y2⟩ := HK5.out.cells
      clear hR5 hrow5 hot5 hbx5 hE5 HRD2 z0 z1 z2
      by_cases ht0 : 0 < tn
      · have hti : (tn : Int) > 0 := by omega
        have HIP : Hid (insP E c = [⟨c.id, 0, tn⟩]) := Lib.hid (by unfold insP; rw [HTN.out, if_pos ht0])
        have hlen5 : (em ++ r1.em).length + 1 ≤ 2000 := by have := HLM.out; omega
        clear ht0
        go_wp2_with (first
          | (at_builtin; refine wp_app1G (v := .slice a4 n4 c4) elemPc encPc_len rfl _ _ rfl rfl HE5.out ⟨c.id, 0, tn⟩ rfl rfl ?c1 ?c2 hlo5 ?_))
        case c1 => simp [encPc, Value.oneCell']
        case c2 => omega
        intro v6 w6 hS6 hg6 hb6
        have HR6 : Hid (RdC w6 gr v5 r2.u r2.a) := Lib.hid (app_other HE5.out hg6 HR5.out (by decide))
        have HB6 : Hid (Below W.heap.size W w6) := Lib.hid (HB5.out.trans hb6)
        have HS6 : Hid (Pcs W.heap.size w6 v6 (em ++ r1.em ++ insP E c)) := Lib.hid (by rw [HIP.out]; first | exact hS6 | (rw [List.append_assoc]; exact hS6))
        have HROW6 : Hid (∀ w, BX gr W.heap.size w6 w → RowPc w v5 r2.l) := Lib.hid (fun w hw => HROW5.out w ((BX.of hb6).trans hw))
        clear hS6 hg6 hb6 y0 y1 y2
        go_wp2_with fail
        go_roundw
        case rel =>
          obtain ⟨a5, c5, e5, -⟩ := HROW6.out w6 (BX.refl _ _ _)
          exact ⟨j + 1, _, r2.l, r2.u, r2.a, a5, c5, HJ.out, by go_num, HS6.out, e5 ▸ HR6.out, e5 ▸ HROW6.out, HN.out.1, HB6.out⟩
        case measure => have := HJ.out; simp [intOf]; omega
      · have hti : ¬ (tn : Int) > 0 := by omega
        have HIP : Hid (insP E c = []) := Lib.hid (by unfold insP; rw [HTN.out, if_neg ht0])
        clear ht0
        go_wp2_with fail
        go_roundw
        case rel =>
          obtain ⟨a5, c5, e5, -⟩ := HROW5.out w5 (BX.refl _ _ _)
          exact ⟨j + 1, _, r2.l, r2.u, r2.a, a5, c5, HJ.out, by go_num, by rw [HIP.out, List.append_nil]; exact HE5.out, e5 ▸ HR5.out, e5 ▸ HROW5.out, HN.out.1, HB5.out⟩
        case measure => have := HJ.out; simp [intOf]; omega
    · obtain rfl : j = L.length := by omega
      obtain ⟨r1, hr1⟩ : ∃ r, readF lr u a 9223372036854775807 = r := ⟨_, rfl⟩
      have hfin := hS.last 9223372036854775807 (by have := HEX.out.1; omega)
      rw [hr1] at hfin
      have HFIN := Lib.hid hfin
      have HRD := Lib.hid (read_any (lo2 := W.heap.size) (lo := W.heap.size) (p := gr) (W := wr) hbw.size (Nat.le_refl _) hR hrow hS.uok HPC.out hem 9223372036854775807 (by omega) (by have := HAL.out; omega) (by have := HLN.out; omega))
      unfold ReadP at HRD
      rw [hr1] at HRD
      rw [show ((9223372036854775807 : Nat) : Int) = 9223372036854775807 from rfl] at HRD
      clear hem hR hrow hS hbw hr1 hfin hj
      go_wp2_with fail
      refine HRD.out.mono ?_
      rintro e w4 ⟨v4, vt4, rfl, hR4, hrow4, hem4, hot4, hbx4⟩
      obtain ⟨f1, f2, f3, f4⟩ := HFIN.out
      have HZ : Hid (ReplP W E len l L (.returned (.tuple #[vt4, .nilIface])) w4) := Lib.hid ⟨vt4, _, rfl, hem4, f1, f2, f3, f4, HBW.out.trans (hbx4.below (Nat.le_of_eq HG.out))⟩
      clear hR4 hrow4 hem4 hot4 hbx4 f1 f2 f3 f4
      go_wp2_with fail
      go_ret2
      exact HZ.out
end M
end Go.Proofs.Ytplccefjljdjnaa
namespace Go.Proofs.Ytplccefjljdjnaa
open Go.RowKit
namespace M
/-- The changes that pieces make, the last piece being the end. -/
def ColS (E : List En) : Nat → Nat → List Pcx → List Chg → Prop
  | _, _, [], M => M = []
  | at0, k, x :: l, M => if x.t = 0 then (if at0 < x.f ∨ 0 < k then ∃ c M2, M = c :: M2 ∧ ColC E at0 x.f k c ∧ ColS E (x.f + x.n) 0 l M2 else ColS E (x.f + x.n) 0 l M) else ColS E at0 (k + x.n) l M
theorem ColS.col {E : List En} {len : Nat} : ∀ {l : List Pcx} {at0 k : Nat} {M : List Chg}, ColS E at0 k (l ++ [⟨0, len, 0⟩]) M → Col E len at0 k l M
  | [], at0, k, M, h => by
    have h' : ColS E at0 k [⟨0, len, 0⟩] M := h
    unfold ColS at h'
    rw [if_pos rfl] at h'
    unfold Col
    split
    · rename_i hc
      rw [if_pos hc] at h'
      obtain ⟨c, M2, rfl, hcc, hz⟩ := h'
      unfold ColS at hz
      subst hz
      exact ⟨c, rfl, hcc⟩
    · rename_i hc
      rw [if_neg hc] at h'
      exact h'
  | x :: l, at0, k, M, h => by
    have h' : ColS E at0 k (x :: (l ++ [⟨0, len, 0⟩])) M := h
    unfold ColS at h'
    unfold Col
    split
    · rename_i ht
      rw [if_pos ht] at h'
      split
      · rename_i hc
        rw [if_pos hc] at h'
        obtain ⟨c, M2, rfl, hcc, hz⟩ := h'
        exact ⟨c, M2, rfl, hcc, hz.col⟩
      · rename_i hc
        rw [if_neg hc] at h'
        exact h'.col
    · rename_i ht
      rw [if_neg ht] at h'
      exact h'.col
/-- Kept pieces stand in order, the others are not empty. -/
def OrdS (len : Nat) : Nat → List Pcx → Prop
  | _, [] => True
  | at0, x :: l => if x.t = 0 then at0 ≤ x.f ∧ x.f + x.n ≤ len ∧ OrdS len (x.f + x.n) l else 0 < x.n ∧ OrdS len at0 l
theorem InOrd.s {len : Nat} : ∀ {l : List Pcx} {at0 : Nat}, InOrd len at0 l → at0 ≤ len → OrdS len at0 (l ++ [⟨0, len, 0⟩])
  | [], at0, _, h => by
    show OrdS len at0 [⟨0, len, 0⟩]
    unfold OrdS
    rw [if_pos rfl]
    exact ⟨h, by dsimp only; omega, trivial⟩
  | x :: l, at0, h, h2 => by
    obtain ⟨h0, h⟩ := h
    show OrdS len at0 (x :: (l ++ [⟨0, len, 0⟩]))
    unfold OrdS
    split
    · rename_i ht
      rw [if_pos ht] at h
      exact ⟨h.1, h.2.1, h.2.2.s h.2.1⟩
    · rename_i ht
      rw [if_neg ht] at h
      exact ⟨h0, h.s h2⟩
/-- The letters that are not kept. -/
def insN : List Pcx → Nat
  | [] => 0
  | x :: l => (if x.t = 0 then 0 else x.n) + insN l
theorem ColC.ext {E E2 : List En} {at0 f k : Nat} {c : Chg} (h : ColC E at0 f k c) (hx : Ext E E2) : ColC E2 at0 f k c := by
  obtain ⟨h1, h2, h3, h4, h5, h6⟩ := h
  exact ⟨h1, h2, by rw [hx.txt h4]; exact h3, Nat.le_trans h4 hx.le, by rw [hx.ent h4]; exact h5, h6⟩
/-- Where collect stands behind j pieces. -/
structure ColI (E0 : List En) (K1 K2 len Mx : Nat) (l : List Pcx) (j : Nat) (E1 : List En) (M1 : List Chg) (ids : List Nat) (ts : List (List Nat)) (at0 : Nat) : Prop where
  bal : BalL E1 ids ts
  ord : OrdS len at0 (l.drop j)
  mx : ts.flatten.length + insN (l.drop j) ≤ Mx
  kp : 0 < ids.length ↔ 0 < ts.flatten.length
  room : E1.length + ids.length * K2 ≤ E0.length + j * (K1 + K2)
  ext : Ext E0 E1
  il : ids.length ≤ j
  ml : M1.length ≤ j
  al : at0 ≤ len
  col : ∀ E2, Ext E1 E2 → ∀ M2, ColS E2 at0 ts.flatten.length (l.drop j) M2 → ColS E2 0 0 l (M1 ++ M2)
theorem ColI.zero {E0 : List En} {K1 K2 len Mx : Nat} {l : List Pcx} (ho : OrdS len 0 l) (hm : insN l ≤ Mx) : ColI E0 K1 K2 len Mx l 0 E0 [] [] [] 0 :=
  ⟨⟨rfl, fun j h => by simp at h⟩, ho, by simpa using hm, by simp, by simp, Ext.refl _, Nat.le_refl _, Nat.le_refl _, Nat.zero_le _, fun E2 _ M2 h => h⟩
theorem ColI.ins {E0 : List En} {K1 K2 len Mx : Nat} {l : List Pcx} {j : Nat} {E1 E2 : List En} {M1 : List Chg} {ids : List Nat} {ts : List (List Nat)} {at0 i : Nat} {t : List Nat} (h : ColI E0 K1 K2 len Mx l j E1 M1 ids ts at0) (hj : j < l.length) (hx : Ext E1 E2) (hn : E2.length ≤ E1.length + K1) (ht : l[j].t ≠ 0) (hb : Bal0 E2 i t) (hl : t.length = l[j].n) :
    ColI E0 K1 K2 len Mx l (j + 1) E2 M1 (ids ++ [i]) (ts ++ [t]) at0 := by
  obtain ⟨bal, ord, mx, kp, room, ext, il, ml, al, col⟩ := h
  rw [List.drop_eq_getElem_cons hj] at ord mx col
  generalize l[j] = x at *
  unfold OrdS at ord
  rw [if_neg ht] at ord
  have hi : insN (x :: l.drop (j + 1)) = x.n + insN (l.drop (j + 1)) := by show (if x.t = 0 then 0 else x.n) + _ = _; rw [if_neg ht]
  have hfl : (ts ++ [t]).flatten.length = ts.flatten.length + x.n := by rw [List.flatten_append, List.length_append]; simp [hl]
  rw [hi] at mx
  refine ⟨⟨by rw [List.length_append, List.length_append, bal.1]; rfl, ?_⟩, ord.2, by omega, by rw [hfl, List.length_append]; simp; omega, ?_, ext.trans hx, by rw [List.length_append]; simp; omega, by omega, al, ?_⟩
  · intro q h1 h2
    by_cases hq : q < ids.length
    · rw [List.getElem_append_left hq, List.getElem_append_left (by have := bal.1; omega)]
      exact (bal.2 q hq (by have := bal.1; omega)).ext hx
    · have hqe : q = ids.length := by rw [List.length_append] at h1; simp at h1; omega
      subst hqe
      rw [List.getElem_append_right (Nat.le_refl _), List.getElem_append_right (by have := bal.1; omega)]
      simpa using hb
  · rw [List.length_append, Nat.succ_mul, Nat.add_mul]; simp; omega
  · intro E3 hx3 M2 hc
    refine col E3 (hx.trans hx3) M2 ?_
    unfold ColS
    rw [if_neg ht, ← hfl]
    exact hc
theorem ColI.chg {E0 : List En} {K1 K2 len Mx : Nat} {l : List Pcx} {j : Nat} {E1 E2 : List En} {M1 : List Chg} {ids : List Nat} {ts : List (List Nat)} {at0 i : Nat} (h : ColI E0 K1 K2 len Mx l j E1 M1 ids ts at0) (hj : j < l.length) (hx : Ext E1 E2) (hn : E2.length ≤ E1.length + ids.length * K2) (ht : l[j].t = 0) (hc : at0 < l[j].f ∨ 0 < ids.length) (hb : Bal0 E2 i ts.flatten) :
    ColI E0 K1 K2 len Mx l (j + 1) E2 (M1 ++ [⟨at0, ((l[j].f - at0 : Nat) : Int), i⟩]) [] [] (l[j].f + l[j].n) := by
  obtain ⟨bal, ord, mx, kp, room, ext, il, ml, al, col⟩ := h
  rw [List.drop_eq_getElem_cons hj] at ord mx col
  generalize l[j] = x at *
  unfold OrdS at ord
  rw [if_pos ht] at ord
  have hi : insN (x :: l.drop (j + 1)) = 0 + insN (l.drop (j + 1)) := by show (if x.t = 0 then 0 else x.n) + _ = _; rw [if_pos ht]
  rw [hi] at mx
  refine ⟨⟨rfl, fun q h => by simp at h⟩, ord.2.2, by simp; omega, by simp, ?_, ext.trans hx, by simp, by rw [List.length_append]; simp; omega, ord.2.1, ?_⟩
  · rw [Nat.succ_mul]; simp; omega
  · intro E3 hx3 M2 hcc
    rw [List.append_assoc]
    refine col E3 (hx.trans hx3) _ ?_
    unfold ColS
    rw [if_pos ht, if_pos (hc.elim .inl (fun h => .inr (kp.1 h)))]
    refine ⟨_, M2, rfl, ColC.ext ⟨rfl, rfl, ?_, hb.le, hb.even, ?_⟩ hx3, hcc⟩
    · show (txt E2 i).length = _
      rw [hb.txt]
    · intro h0
      have h0 : i = 0 := h0
      have := hb.txt
      rw [h0, txt_zero] at this
      rw [← this]; rfl
theorem ColI.skip {E0 : List En} {K1 K2 len Mx : Nat} {l : List Pcx} {j : Nat} {E1 : List En} {M1 : List Chg} {ids : List Nat} {ts : List (List Nat)} {at0 : Nat} (h : ColI E0 K1 K2 len Mx l j E1 M1 ids ts at0) (hj : j < l.length) (ht : l[j].t = 0) (hc : ¬ at0 < l[j].f) (hc2 : ¬ 0 < ids.length) :
    ColI E0 K1 K2 len Mx l (j + 1) E1 M1 [] [] (l[j].f + l[j].n) := by
  obtain ⟨bal, ord, mx, kp, room, ext, il, ml, al, col⟩ := h
  rw [List.drop_eq_getElem_cons hj] at ord mx col
  generalize l[j] = x at *
  unfold OrdS at ord
  rw [if_pos ht] at ord
  have hi : insN (x :: l.drop (j + 1)) = 0 + insN (l.drop (j + 1)) := by show (if x.t = 0 then 0 else x.n) + _ = _; rw [if_pos ht]
  rw [hi] at mx
  refine ⟨⟨rfl, fun q h => by simp at h⟩, ord.2.2, by simp; omega, by simp, ?_, ext, by simp, by omega, ord.2.1, ?_⟩
  · rw [Nat.succ_mul]; simp; omega
  · intro E3 hx3 M2 hcc
    refine col E3 hx3 _ ?_
    unfold ColS
    rw [if_pos ht, if_neg (fun h => h.elim hc (fun h => hc2 (kp.2 h)))]
    exact hcc
theorem ColI.done {E0 : List En} {K1 K2 len Mx : Nat} {l : List Pcx} {j : Nat} {E1 : List En} {M1 : List Chg} {ids : List Nat} {ts : List (List Nat)} {at0 : Nat} (h : ColI E0 K1 K2 len Mx (l ++ [⟨0, len, 0⟩]) j E1 M1 ids ts at0) (hj : j = (l ++ [(⟨0, len, 0⟩ : Pcx)]).length) : Col E1 len 0 0 l M1 := by
  subst hj
  have := h.col E1 (Ext.refl _) [] (by rw [List.drop_length]; rfl)
  rw [List.append_nil] at this
  exact this.col
/-- What is as it was in cells of types that collect does not turn. -/
def KtP (A B : World) : Prop := ∀ t : TypeId, t ≠ 91 → t ≠ 121 → t ≠ 138 → ∀ (k : Nat) (cs : Array Value) (fz : Nat × Nat), A.heap[k]? = some (.cells cs t fz) → B.heap[k]? = some (.cells cs t fz)
theorem KtP.of {A B : World} (h : Kt A B) : KtP A B := fun t a b _ k cs fz e => h t a b k cs fz e
theorem KtP.trans {A B C : World} (h : KtP A B) (k : KtP B C) : KtP A C := fun t a b c i cs fz e => k t a b c i cs fz (h t a b c i cs fz e)
end M
end Go.Proofs.Ytplccefjljdjnaa
namespace Go.Proofs.Ytplccefjljdjnaa
open Go.RowKit Go.Lib
namespace M
attribute [local go_sem] Oper.semAt_some
/-- What collect leaves. -/
def ColR (n0 B most k : Nat) (E : List En) (W : World) (len : Nat) (l : List Pcx) (e : Ending) (w' : World) : Prop :=
  ∃ E' M v', e = .returned (.tuple #[v', .nilIface]) ∧ StAt n0 w' B most E' ∧ WfD E' ∧ Ext E E' ∧ E'.length ≤ E.length + k ∧ Chs W.heap.size w' v' M ∧ Col E' len 0 0 l M ∧ M.length ≤ l.length + 1 ∧ Below n0 W w' ∧ KtP W w'
theorem KtP.own {n1 : Nat} {A C : World} {α : Type} {size : Nat} {enc : α → List Value} {v : Value} {l : List α} {o : Obj} (hS : SlA n1 A 138 size enc v l) (hg : (A.alloc o).grownBy C v.ownBlock) : KtP A C := fun t _ _ h3 =>
  (KeepT.below ((Below.refl _ _).alloc (Nat.le_refl _) _)).trans (keep_own (hS.below ((Below.refl _ _).alloc (Nat.le_refl _) o)) hg h3)
theorem SlA.app2 {α β : Type} {n1 n2 : Nat} {A C : World} {e e2 : TypeId} {size size2 : Nat} {enc : α → List Value} {enc2 : β → List Value} {v v2 : Value} {l : List α} {l2 : List β} {o : Obj} (h : SlA n2 A e2 size2 enc2 v2 l2) (hS : SlA n1 A e size enc v l) (hg : (A.alloc o).grownBy C v.ownBlock) (ht : e2 ≠ e) : SlA n2 C e2 size2 enc2 v2 l2 :=
  h.keep ((KeepT.below ((Below.refl _ _).alloc (Nat.le_refl _) _)).trans (keep_own (hS.below ((Below.refl _ _).alloc (Nat.le_refl _) o)) hg ht))
theorem pcs_at {B : Nat} {W : World} {v : Value} {l : List Pcx} (h : Pcs B W v l) {i : Nat} (hi : i < l.length) : ∃ g cap, v = .slice (some ⟨g, 0, none⟩) l.length cap ∧ W.cell? ⟨g, i * 3, none⟩ = some (.int .i64 (l[i].t : Int)) ∧ W.cell? ⟨g, i * 3 + 1, none⟩ = some (.int .i64 (l[i].f : Int)) ∧ W.cell? ⟨g, i * 3 + 2, none⟩ = some (.int .i64 (l[i].n : Int)) := by
  rcases h.shape with ⟨-, rfl⟩ | ⟨g, cap, rfl, h1, h2⟩
  · simp at hi
  · have e0 := SlA.cell encPc_len h hi (j := 0) (by omega); have e1 := SlA.cell encPc_len h hi (j := 1) (by omega); have e2 := SlA.cell encPc_len h hi (j := 2) (by omega)
    exact ⟨g, cap, rfl, e0, e1, e2⟩
theorem SlA.lower {α : Type} {B₀ B₁ : Nat} {A : World} {e : TypeId} {size : Nat} {enc : α → List Value} {v : Value} {l : List α} (h : SlA B₀ A e size enc v l) (hb : B₁ ≤ B₀) : SlA B₁ A e size enc v l :=
  ⟨h.1, h.2.imp id (fun ⟨g, cap, cur, hv, hg, r⟩ => ⟨g, cap, cur, hv, Nat.le_trans hb hg, r⟩)⟩
set_option maxRecDepth 100000 in
set_option maxHeartbeats 8000000 in
theorem collect_any {D Mx : Nat} (hD : Dep D Mx) {n0 B most b0 len : Nat} {W : World} {E : List En} (hs : StAt n0 W B most E) (hwf : WfD E) {vl : Value} {l : List Pcx} (hl : Pcs b0 W vl l) (hnb : n0 ≤ b0) (hb0 : b0 ≤ W.heap.size) (hq : PcL E len l) (ho : InOrd len 0 l) (hlen : len ≤ 1152921504606846976) (hll : l.length ≤ 200) (hM : insN l ≤ Mx) (hMt : ∀ y ∈ l, (txt E y.t).length ≤ Mx)
    (hroom : E.length + (l.length + 1) * (secK D + (3 * D + 1)) ≤ most) (hE : E.length + (l.length + 1) * (secK D + (3 * D + 1)) ≤ 1048576) :
    Calls Try.prog 66 #[.pointer (some ⟨B, 0, none⟩), .int .i64 (len : Nat), vl] W (ColR n0 B most ((l.length + 1) * (secK D + (3 * D + 1))) E W len l) := by
  obtain ⟨va, vc, rfl⟩ := hl.len
  have hn0 := hs.lt
  have HS := Lib.hid hs; have HWF := Lib.hid hwf; have HL := Lib.hid hl; have HN0 := Lib.hid hn0
  have HNN := Lib.hid (And.intro hroom (And.intro hE (And.intro hD.2 (And.intro hll (And.intro hlen (And.intro hnb hb0))))))
  have HQ : Hid (∀ y ∈ l ++ [(⟨0, len, 0⟩ : Pcx)], y.t ≤ E.length ∧ (entAt E y.t).even = true ∧ (y.t ≠ 0 → y.f + y.n ≤ (txt E y.t).length) ∧ (txt E y.t).length ≤ Mx ∧ y.f + y.n ≤ 1152921504606846976) := Lib.hid (fun y hy => by
    rcases List.mem_append.1 hy with hy | hy
    · obtain ⟨h1, h2, h3, h4⟩ := hq y hy
      refine ⟨h1, h2, h3, hMt y hy, ?_⟩
      by_cases ht : y.t = 0
      · exact Nat.le_trans (h4 ht) hlen
      · exact Nat.le_trans (h3 ht) (hwf.wf.len h1).2
    · simp at hy; subst hy
      exact ⟨Nat.zero_le _, rfl, fun h => absurd rfl h, by rw [txt_zero]; simp, hlen⟩)
  have hiN : ∀ (a b : List Pcx), insN (a ++ b) = insN a + insN b := fun a b => by
    induction a with
    | nil => simp [insN]
    | cons x a ih => simp only [List.cons_append, insN, ih]; omega
  have HI0 : Hid (ColI E (secK D) (3 * D + 1) len Mx (l ++ [⟨0, len, 0⟩]) 0 E [] [] [] 0) := Lib.hid (.zero (ho.s (Nat.zero_le _)) (by rw [hiN]; simpa [insN] using hM))
  have hl20 : l.length + 1 ≤ 2000 := by omega
  clear hs hwf hl hn0 hq ho hlen hll hM hMt hroom hE hnb hiN
  go_enter Try.func66, Try.ntmps66
  go_wp2_with (first
    | (at_builtin; refine wp_app1G (v := .slice va l.length vc) elemPc encPc_len rfl _ _ rfl rfl HL.out ⟨0, len, 0⟩ rfl rfl ?c1 ?c2 hb0 ?_))
  case c1 => simp [encPc, Value.oneCell']
  case c2 => omega
  intro v1 w1 hS1 hg1 hb1
  obtain ⟨a1, c1, rfl⟩ := hS1.len
  have hl1 : (l ++ [(⟨0, len, 0⟩ : Pcx)]).length = l.length + 1 := by simp
  obtain ⟨l1, hl1e⟩ : ∃ x, l ++ [(⟨0, len, 0⟩ : Pcx)] = x := ⟨_, rfl⟩
  have HLE := Lib.hid hl1e
  rw [hl1e] at hS1 hl1 HI0 HQ ⊢
  have HL1 := Lib.hid hl1
  have hst1 : StAt n0 w1 B most E := HS.out.app' HL.out hg1 (by decide) (by decide)
  have HST1 := Lib.hid hst1
  have HW1 : Hid (Below n0 W w1 ∧ KtP W w1 ∧ W.heap.size ≤ w1.heap.size) := Lib.hid ⟨hb1.mono HNN.out.2.2.2.2.2.1, KtP.own HL.out hg1, hb1.size⟩
  have HP1 := Lib.hid hS1
  clear hS1 hg1 hb1 hst1 hb0 hl20 hl1e
  have hl1b : l1.length ≤ 201 := by have := HNN.out.2.2.2.1; omega
  clear hl1
  go_wp2_with fail
  go_loopw [8, 9, 10, 23] (fun p tx at' c wr => ∃ (j : Nat) (E1 : List En) (M1 : List Chg) (ids : List Nat) (ts : List (List Nat)) (at0 : Nat), j ≤ l1.length ∧ c = .int .i64 j ∧ at' = .int .i64 (at0 : Nat) ∧ Chs w1.heap.size wr p M1 ∧ Ids w1.heap.size wr tx ids ∧ StAt n0 wr B most E1 ∧ WfD E1 ∧ ColI E (secK D) (3 * D + 1) len Mx l1 j E1 M1 ids ts at0 ∧ Below n0 w1 wr ∧ Kt w1 wr) (fun _ _ _ c _ => l1.length - (intOf c).toNat)
  case atStart => exact ⟨0, E, [], [], [], 0, Nat.zero_le _, rfl, rfl, SlA.nil _ _ _ _ _, SlA.nil _ _ _ _ _, HST1.out, HWF.out, HI0.out, Below.refl _ _, Kt.of (Below.refl _ _)⟩
  case round =>
    obtain ⟨j, E1, M1, ids, ts, at0, hj, rfl, rfl, hR, hI, hs1, hwf1, hci, hbw, hkt⟩ := hrel
    obtain ⟨pa, pc, hpv⟩ := hR.len
    obtain ⟨pn, hpn⟩ : ∃ n, M1.length = n := ⟨_, rfl⟩
    rw [hpn] at hpv
    subst hpv
    obtain ⟨ia, ic, hiv⟩ := hI.len
    obtain ⟨im, him⟩ : ∃ n, ids.length = n := ⟨_, rfl⟩
    rw [him] at hiv
    subst hiv
    have HR := Lib.hid hR; have HI := Lib.hid hI; have HS1 := Lib.hid hs1; have HF1 := Lib.hid hwf1; have HCI := Lib.hid hci; have HBW := Lib.hid hbw; have HKT := Lib.hid hkt
    have HIM := Lib.hid him
    have HPN := Lib.hid hpn
    have hlow : W.heap.size ≤ wr.heap.size := Nat.le_trans HW1.out.2.2 hbw.size
    have hlo1 : w1.heap.size ≤ wr.heap.size := hbw.size
    clear hR hI hs1 hwf1 hci hbw hkt him hpn
    by_cases hlt : j < l1.length
    · have hlt2 : (j : Int) < (l1.length : Int) := by omega
      obtain ⟨g, cap, e1, m0, m1, m2⟩ := pcs_at (show Pcs b0 wr (.slice a1 l1.length c1) l1 from HP1.out.keep (HKT.out.keepT (by decide) (by decide))) hlt
      simp only [Value.slice.injEq] at e1
      obtain ⟨rfl, -, rfl⟩ := e1
      have HJ := Lib.hid hlt
      obtain ⟨hx1, hx2, hx3, hxm, hxb⟩ := HQ.out _ (List.getElem_mem hlt)
      have hmul : (j + 1) * (secK D + (3 * D + 1)) ≤ (l.length + 1) * (secK D + (3 * D + 1)) := Nat.mul_le_mul_right _ (by have := HL1.out; omega)
      have hsucc : (j + 1) * (secK D + (3 * D + 1)) = j * (secK D + (3 * D + 1)) + (secK D + (3 * D + 1)) := Nat.succ_mul _ _
      have hrm := HCI.out.room
      have hnn := HNN.out
      have hSI := fun E2 i t h1 h2 h3 h4 h5 => HCI.out.ins (E2 := E2) (i := i) (t := t) hlt h1 h2 h3 h4 h5
      have hSC := fun E2 i h1 h2 h3 h4 h5 => HCI.out.chg (E2 := E2) (i := i) hlt h1 h2 h3 h4 h5
      have hSK := fun h1 h2 h3 => HCI.out.skip hlt h1 h2 h3
      have hord := HCI.out.ord
      rw [List.drop_eq_getElem_cons hlt] at hord
      generalize l1[j] = x at *
      unfold OrdS at hord
      obtain ⟨wz, w2, hz, hst1, kc, bw, ⟨p0, p1, p2⟩, q0, q1, q2⟩ := newPc wr x
      obtain ⟨gc, hgc⟩ : ∃ g, wr.heap.size = g := ⟨_, rfl⟩
      rw [hgc] at hst1 kc p0 p1 p2 q0 q1 q2
      obtain ⟨x0, x1, x2⟩ := kc.cells
      have HKC := Lib.hid kc
      have hlo2 : w1.heap.size ≤ w2.heap.size := Nat.le_trans hlo1 bw.size
      have HB2 : Hid (Below n0 w1 w2) := Lib.hid (HBW.out.trans (bw.mono HS1.out.lt))
      have HK2 : Hid (Kt w1 w2) := Lib.hid (HKT.out.trans (Kt.of bw))
      have hs2 := HS1.out.below bw
      have HS2 := Lib.hid hs2
      have HR2 := Lib.hid (HR.out.below bw)
      have HI2 := Lib.hid (HI.out.below bw)
      have hj200 : j ≤ 201 := by omega
      clear kc bw
      by_cases ht : x.t = 0
      rotate_left
      · have htb : ((x.t : Int) == 0) = false := beq_eq_false_iff_ne.2 (by omega)
        rw [if_neg ht] at hord
        have HSE := Lib.hid (psec_any hD hs2 HF1.out (Bal0.ext (A := E) ⟨hx1, rfl, hx2⟩ HCI.out.ext) (hx3 ht) hxm (by omega) (by omega))
        have HLT : Hid ((((txt E x.t).drop x.f).take x.n).length = x.n) := Lib.hid (by rw [List.length_take, List.length_drop]; have := hx3 ht; omega)
        have HST := Lib.hid (fun E2 i h1 h2 h3 => hSI E2 i (((txt E x.t).drop x.f).take x.n) h1 h2 ht h3 HLT.out)
        have him : im + 1 ≤ 2000 := by rw [← HIM.out]; have := HCI.out.il; omega
        generalize ((txt E x.t).drop x.f).take x.n = G at *
        clear ht hx1 hx2 hx3 hxm hxb hmul hsucc hrm hnn hSI hSC hSK hord hs2
        go_wp2_with fail
        clear hz hst1 p0 p1 p2 q0 q1 q2 m0 m1 m2 hgc
        refine HSE.out.mono ?_
        rintro e w4 ⟨E4, i4, rfl, s4, f4, x4, n4, bl4, bb4, kt4⟩
        have HI4 := Lib.hid (show Ids w1.heap.size w4 (.slice ia im ic) ids from HI2.out.keep (kt4.keepT (by decide) (by decide)))
        have HR4 := Lib.hid (show Chs w1.heap.size w4 (.slice pa pn pc) M1 from kt_chs HR2.out kt4)
        have HX4 := Lib.hid (And.intro f4 (And.intro x4 (And.intro n4 (And.intro bl4 (And.intro bb4 kt4)))))
        have HS4 := Lib.hid s4
        have hlo4 : w1.heap.size ≤ w4.heap.size := Nat.le_trans hlo2 bb4.size
        clear s4 f4 x4 n4 bl4 bb4 kt4 x0 x1 x2
        go_wp2_with (first
          | (at_builtin; refine wp_app1G (v := .slice ia im ic) elemId encNt_len rfl _ _ rfl rfl HI4.out i4 rfl rfl ?c1 ?c2 hlo4 ?_))
        case c1 => simp [encNt, Value.oneCell']
        case c2 => have := HIM.out; omega
        intro v5 w5 hS5 hg5 hb5
        have HS5 := Lib.hid hS5
        have HST5 := Lib.hid (HS4.out.app' HI4.out hg5 (by decide) (by decide))
        have HR5 := Lib.hid (show Chs w1.heap.size w5 (.slice pa pn pc) M1 from SlA.app2 HR4.out HI4.out hg5 (by decide))
        have HB5 := Lib.hid hb5
        clear hS5 hg5 hb5
        go_wp2_with fail
        go_roundw
        case rel =>
          obtain ⟨f4, x4, n4, bl4, bb4, kt4⟩ := HX4.out
          exact ⟨j + 1, E4, M1, _, _, at0, HJ.out, by go_num, rfl, HR5.out, HS5.out, HST5.out, f4, HST.out E4 i4 x4 n4 bl4, (HB2.out.trans bb4).trans (HB5.out.mono (Nat.le_trans HN0.out HW1.out.2.2)), (HK2.out.trans kt4).then HB5.out⟩
        case measure => have := HJ.out; simp [intOf]; omega
      · have htb : ((x.t : Int) == 0) = true := by rw [ht]; rfl
        rw [if_pos ht] at hord
        obtain ⟨fn, hfn⟩ : ∃ n, x.f + x.n = n := ⟨_, rfl⟩
        obtain ⟨fd, hfd⟩ : ∃ z : Int, ((x.f - at0 : Nat) : Int) = z := ⟨_, rfl⟩
        have hw1 : IntKind.i64.wrap ((x.f : Int) + (x.n : Int)) = (fn : Int) := by rw [IntKind.wrap_i64]; omega
        have hw2 : IntKind.i64.wrap ((x.f : Int) - (at0 : Int)) = fd := by rw [IntKind.wrap_i64]; omega
        have HFN := Lib.hid hfn; have HFD := Lib.hid hfd
        have hbal := HCI.out.bal
        have hcm := HCI.out.mx
        have hcil := HCI.out.il
        have HCN := Lib.hid (pconcat_any hD hs2 HF1.out HI2.out hbal (by omega) (by omega) (by omega) (by omega))
        rw [HIM.out] at HCN hrm hcil
        have HST := Lib.hid (fun E2 i h1 (h2 : E2.length ≤ E1.length + im * (3 * D + 1)) h4 h5 => hSC E2 i h1 (by rw [HIM.out]; exact h2) ht h4 h5)
        have HSK := Lib.hid (hSK ht)
        clear hcm hcil ht hx1 hx2 hx3 hmul hsucc hrm hnn hSI hSC hSK hord hfn hfd
        by_cases hc1 : at0 < x.f
        · have HCC := Lib.hid (show at0 < x.f ∨ 0 < ids.length from .inl hc1)
          have hg1 : (x.f : Int) > (at0 : Int) := by omega
          clear hxm hxb hs2 hbal
          go_wp2_with fail
          clear hz hst1 p0 p1 p2 q0 q1 q2 m0 m1 m2 hgc
          refine HCN.out.mono ?_
          rintro e w4 ⟨E4, i4, rfl, s4, f4, x4, n4, bl4, bb4, kt4⟩
          have hk4 : PcC w4 gc x := kt4 _ (by decide) (by decide) _ _ _ HKC.out
          obtain ⟨y0, y1, y2⟩ := hk4.cells
          have HK4 := Lib.hid hk4
          have HR4 := Lib.hid (show Chs w1.heap.size w4 (.slice pa pn pc) M1 from kt_chs HR2.out kt4)
          have HX4 := Lib.hid (And.intro f4 (And.intro x4 (And.intro n4 (And.intro bl4 (And.intro bb4 kt4)))))
          have HS4 := Lib.hid s4
          have hlo4 : w1.heap.size ≤ w4.heap.size := Nat.le_trans hlo2 bb4.size
          clear hk4 s4 f4 x4 n4 bl4 bb4 kt4 x0 x1 x2
          go_wp2_with (first
            | (at_builtin; refine wp_app1G (v := .slice pa pn pc) elemCh encCh_len rfl _ _ rfl rfl HR4.out ⟨at0, fd, i4⟩ rfl rfl ?c1 ?c2 hlo4 ?_))
          case c1 => simp [encCh, Value.oneCell']
          case c2 => have := HPN.out; have := HCI.out.ml; omega
          intro v5 w5 hS5 hg5 hb5
          have HS5 := Lib.hid hS5
          have HST5 := Lib.hid (HS4.out.app' HR4.out hg5 (by decide) (by decide))
          have HB5 := Lib.hid hb5
          have HK5 := Lib.hid (show PcC w5 gc x from app_other HR4.out hg5 HK4.out (by decide))
          obtain ⟨y0', y1', y2'⟩ := HK5.out.cells
          clear hS5 hg5 hb5 y0 y1 y2
          go_wp2_with fail
          clear y0' y1' y2'
          go_roundw
          case rel =>
            obtain ⟨f4, x4, n4, bl4, bb4, kt4⟩ := HX4.out
            have hst := HST.out E4 i4 x4 n4 HCC.out bl4
            rw [HFN.out, HFD.out] at hst
            exact ⟨j + 1, E4, _, [], [], fn, HJ.out, by go_num, rfl, HS5.out, SlA.nil _ _ _ _ _, HST5.out, f4, hst, (HB2.out.trans bb4).trans (HB5.out.mono (Nat.le_trans HN0.out HW1.out.2.2)), (HK2.out.trans kt4).then HB5.out⟩
          case measure => have := HJ.out; simp [intOf]; omega
        · by_cases hc2 : 0 < im
          · have HCC := Lib.hid (show at0 < x.f ∨ 0 < ids.length from .inr (by rw [HIM.out]; exact hc2))
            have hg1 : ¬ (x.f : Int) > (at0 : Int) := by omega
            have hg2 : (im : Int) > 0 := by omega
            clear hxm hxb hs2 hbal
            go_wp2_with fail
            clear hz hst1 p0 p1 p2 q0 q1 q2 m0 m1 m2 hgc
            refine HCN.out.mono ?_
            rintro e w4 ⟨E4, i4, rfl, s4, f4, x4, n4, bl4, bb4, kt4⟩
            have hk4 : PcC w4 gc x := kt4 _ (by decide) (by decide) _ _ _ HKC.out
            obtain ⟨y0, y1, y2⟩ := hk4.cells
            have HK4 := Lib.hid hk4
            have HR4 := Lib.hid (show Chs w1.heap.size w4 (.slice pa pn pc) M1 from kt_chs HR2.out kt4)
            have HX4 := Lib.hid (And.intro f4 (And.intro x4 (And.intro n4 (And.intro bl4 (And.intro bb4 kt4)))))
            have HS4 := Lib.hid s4
            have hlo4 : w1.heap.size ≤ w4.heap.size := Nat.le_trans hlo2 bb4.size
            clear hk4 s4 f4 x4 n4 bl4 bb4 kt4 x0 x1 x2
            go_wp2_with (first
              | (at_builtin; refine wp_app1G (v := .slice pa pn pc) elemCh encCh_len rfl _ _ rfl rfl HR4.out ⟨at0, fd, i4⟩ rfl rfl ?c1 ?c2 hlo4 ?_))
            case c1 => simp [encCh, Value.oneCell']
            case c2 => have := HPN.out; have := HCI.out.ml; omega
            intro v5 w5 hS5 hg5 hb5
            have HS5 := Lib.hid hS5
            have HST5 := Lib.hid (HS4.out.app' HR4.out hg5 (by decide) (by decide))
            have HB5 := Lib.hid hb5
            have HK5 := Lib.hid (show PcC w5 gc x from app_other HR4.out hg5 HK4.out (by decide))
            obtain ⟨y0', y1', y2'⟩ := HK5.out.cells
            clear hS5 hg5 hb5 y0 y1 y2
            go_wp2_with fail
            clear y0' y1' y2'
            go_roundw
            case rel =>
              obtain ⟨f4, x4, n4, bl4, bb4, kt4⟩ := HX4.out
              have hst := HST.out E4 i4 x4 n4 HCC.out bl4
              rw [HFN.out, HFD.out] at hst
              exact ⟨j + 1, E4, _, [], [], fn, HJ.out, by go_num, rfl, HS5.out, SlA.nil _ _ _ _ _, HST5.out, f4, hst, (HB2.out.trans bb4).trans (HB5.out.mono (Nat.le_trans HN0.out HW1.out.2.2)), (HK2.out.trans kt4).then HB5.out⟩
            case measure => have := HJ.out; simp [intOf]; omega
          · have HCC := Lib.hid (show ¬ at0 < x.f ∧ ¬ 0 < ids.length from ⟨hc1, by rw [HIM.out]; exact hc2⟩)
            have hg1 : ¬ (x.f : Int) > (at0 : Int) := by omega
            have hg2 : ¬ (im : Int) > 0 := by omega
            clear hxm hxb hs2 hbal
            go_wp2_with fail
            go_roundw
            case rel =>
              have hst := HSK.out HCC.out.1 HCC.out.2
              rw [HFN.out] at hst
              exact ⟨j + 1, E1, M1, [], [], fn, HJ.out, by go_num, rfl, HR2.out, SlA.nil _ _ _ _ _, HS2.out, HF1.out, hst, HB2.out, HK2.out⟩
            case measure => have := HJ.out; simp [intOf]; omega
    · obtain rfl : j = l1.length := by omega
      have hml := HCI.out.ml
      have hfin := HCI.out
      rw [← HLE.out] at hfin
      have hcol := hfin.done (by rw [HLE.out])
      have HFIN : Hid (ColR n0 B most ((l.length + 1) * (secK D + (3 * D + 1))) E W len l (.returned (.tuple #[.slice pa pn pc, .nilIface])) wr) := Lib.hid (by
        refine ⟨E1, M1, _, rfl, HS1.out, HF1.out, HCI.out.ext, ?_, ?_, hcol, by have := HL1.out; omega, HW1.out.1.trans HBW.out, HW1.out.2.1.trans (.of HKT.out)⟩
        · have := HCI.out.room; rw [HL1.out] at this; omega
        · exact SlA.lower HR.out HW1.out.2.2)
      clear hml hfin hcol
      go_wp2_with fail
      go_ret2
      exact HFIN.out
end M
end Go.Proofs.Ytplccefjljdjnaa
namespace Go.Proofs.Ytplccefjljdjnaa
open Go.RowKit Go.Lib
namespace M
attribute [local go_sem] Oper.semAt_some
theorem lit_pc (w : World) (len : Nat) : Pcs w.heap.size (w.alloc (.cells #[.int .i64 0, .int .i64 0, .int .i64 (len : Int)] 138)) (.slice (some ⟨w.heap.size, 0, none⟩) 1 1) [⟨0, 0, len⟩] :=
  SlA.lit (l := [(⟨0, 0, len⟩ : Pcx)]) encPc_len rfl (by unfold maxLen; simp)
/-- The letters that are not the text's own. -/
def nk (l : List (Nat × Nat)) : Nat := (l.filter fun p => p.1 != 0).length
theorem nk_app (a b : List (Nat × Nat)) : nk (a ++ b) = nk a + nk b := by unfold nk; rw [List.filter_append, List.length_append]
theorem nk_le (a : List (Nat × Nat)) : nk a ≤ a.length := List.length_filter_le _ _
theorem nk_exP (x : Pcx) : nk (exP x) = if x.t = 0 then 0 else x.n := by
  unfold nk exP
  rw [List.filter_map]
  split
  · rename_i h
    have : (List.range x.n).filter ((fun p : Nat × Nat => p.1 != 0) ∘ fun k => (x.t, x.f + k)) = [] := by
      rw [List.filter_eq_nil_iff]; intro a _; simp [h]
    rw [this]; rfl
  · rename_i h
    have : (List.range x.n).filter ((fun p : Nat × Nat => p.1 != 0) ∘ fun k => (x.t, x.f + k)) = List.range x.n := by
      rw [List.filter_eq_self]; intro a _; simp [h]
    rw [this]; simp
theorem insN_nk : ∀ (l : List Pcx), insN l = nk (exA l)
  | [] => rfl
  | x :: l => by
    rw [exA_cons, nk_app, nk_exP, ← insN_nk l]; rfl
theorem nk_patG {E : List En} {t : List (Nat × Nat)} {len : Int} : ∀ (L : List Chg) (last : Int) (f : Nat), formF len last L = true → (f : Int) ≤ last + 1 → nk (patG (insX E) t f L) ≤ nk (t.drop f) + insF E L
  | [], _, f, _, _ => Nat.le_add_right _ _
  | c :: L, last, f, h, hf => by
    obtain ⟨g1, g2, g3, g4, g5, g6⟩ := chg_form h
    show nk ((t.drop f).take (c.pos.toNat - f) ++ (insX E c ++ patG (insX E) t (c.pos + c.n).toNat L)) ≤ _
    rw [nk_app, nk_app]
    have ih := nk_patG (E := E) (t := t) L (c.pos + c.n) (c.pos + c.n).toNat g5 (by omega)
    have hi : nk (insX E c) ≤ (txt E c.id).length := by have := nk_le (insX E c); rw [insX_len] at this; exact this
    have hd : t.drop (c.pos + c.n).toNat = ((t.drop f).drop (c.pos.toNat - f)).drop c.n.toNat := by
      rw [List.drop_drop, List.drop_drop]; congr 1; omega
    have e : nk (t.drop f) = nk ((t.drop f).take (c.pos.toNat - f)) + nk ((t.drop f).drop (c.pos.toNat - f)) := by rw [← nk_app, List.take_append_drop]
    have e2 : nk ((t.drop f).drop (c.pos.toNat - f)) = nk (((t.drop f).drop (c.pos.toNat - f)).take c.n.toNat) + nk (((t.drop f).drop (c.pos.toNat - f)).drop c.n.toNat) := by rw [← nk_app, List.take_append_drop]
    rw [hd] at ih
    have e3 : insF E (c :: L) = (txt E c.id).length + insF E L := rfl
    rw [e3]
    omega
/-- How many rules a composition makes at most. -/
def cmpK (D p q : Nat) : Nat := (3 * p + 3 * q + 4) * (secK D + (3 * D + 1))
/-- What Compose leaves. -/
def CmpP (n0 B most k : Nat) (E : List En) (W : World) (len : Nat) (p q : List Chg) (e : Ending) (w' : World) : Prop :=
  ∃ E' M l v', e = .returned (.tuple #[v', .nilIface]) ∧ StAt n0 w' B most E' ∧ WfD E' ∧ Ext E E' ∧ E'.length ≤ E.length + k ∧ Chs W.heap.size w' v' M ∧ exA l = bothX E len p q ∧ (∀ y ∈ l, 0 < y.n) ∧ Col E' len 0 0 l M ∧ M.length ≤ 200 ∧ Below n0 W w' ∧ KtP W w'
theorem patG_mem {E : List En} {t : List (Nat × Nat)} {a : Nat × Nat} : ∀ (L : List Chg) (f : Nat), a ∈ patG (insX E) t f L → a ∈ t ∨ ∃ c ∈ L, a.1 = c.id
  | [], _, h => .inl (List.mem_of_mem_drop h)
  | c :: L, f, h => by
    rcases List.mem_append.1 h with h | h
    · exact .inl (List.mem_of_mem_drop (List.mem_of_mem_take h))
    · rcases List.mem_append.1 h with h | h
      · obtain ⟨k, -, rfl⟩ := List.mem_map.1 h
        exact .inr ⟨c, by simp, rfl⟩
      · rcases patG_mem L _ h with h | ⟨d, hd, e⟩
        · exact .inl h
        · exact .inr ⟨d, by simp [hd], e⟩
theorem both_txt {E : List En} {len Mx : Nat} {p q : List Chg} (h40 : 40 ≤ Mx) (htp : ∀ c ∈ p ++ q, (txt E c.id).length ≤ 40) {l : List Pcx} (hl : exA l = bothX E len p q) (hn : ∀ y ∈ l, 0 < y.n) : ∀ y ∈ l, (txt E y.t).length ≤ Mx := by
  intro y hy
  have hm : (y.t, y.f) ∈ exA l := List.mem_flatMap.2 ⟨y, hy, List.mem_map.2 ⟨0, List.mem_range.2 (hn y hy), rfl⟩⟩
  rw [hl] at hm
  rcases patG_mem q 0 hm with hm | ⟨c, hc, e⟩
  · rcases patG_mem p 0 hm with hm | ⟨c, hc, e⟩
    · obtain ⟨k, -, e⟩ := List.mem_map.1 hm
      have e1 : 0 = y.t := congrArg Prod.fst e
      rw [← e1, txt_zero]; simp
    · have e1 : y.t = c.id := e
      rw [e1]; have := htp c (by simp [hc]); omega
  · have e1 : y.t = c.id := e
    rw [e1]; have := htp c (by simp [hc]); omega
/-- The letters behind j patches. -/
def stX (E : List En) (len : Nat) (p q : List Chg) : Nat → List (Nat × Nat)
  | 0 => origX len
  | 1 => patG (insX E) (origX len) 0 p
  | _ => bothX E len p q
set_option maxRecDepth 100000 in
set_option maxHeartbeats 8000000 in
theorem compose_any {D Mx : Nat} (hD : Dep D Mx) {n0 B most bp bq len : Nat} {W : World} {E : List En} (hs : StAt n0 W B most E) (hwf : WfD E) {vp vq : Value} {p q : List Chg} (hCp : Chs bp W vp p) (hTp : Txs E p) (hLp : p.length ≤ 12) (hCq : Chs bq W vq q) (hTq : Txs E q) (hLq : q.length ≤ 12) {n nl : Int} (hp : lngF E len p = (n, 0)) (hq : lngF E n q = (nl, 0))
    (hM : insF E p + insF E q ≤ Mx) (hM40 : 40 ≤ Mx) (htp : ∀ c ∈ p ++ q, (txt E c.id).length ≤ 40) (hroom : E.length + 80 * (secK D + (3 * D + 1)) ≤ most) (hE : E.length + 80 * (secK D + (3 * D + 1)) ≤ 1048576) :
    Calls Try.prog 39 #[.pointer (some ⟨B, 0, none⟩), .int .i64 (len : Nat), vp, vq] W (CmpP n0 B most (80 * (secK D + (3 * D + 1))) E W len p q) := by
  have hE' : E.length ≤ 1048576 := by omega
  have hp0 : (lngF E len p).2 = 0 := by rw [hp]
  have hq0 : (lngF E n q).2 = 0 := by rw [hq]
  obtain ⟨o1, o2, o3, o4, o5⟩ := lngF_ok hp0
  obtain ⟨u1, u2, u3, u4, u5⟩ := lngF_ok hq0
  rw [hp] at o5
  rw [hq] at u5
  dsimp only at o5 u5
  have hlp := patG_len (ins := insX E) (E := E) (t := origX len) p (-1) 0 (fun c _ => insX_len E c) (by rw [origX_len]; exact o3) (by omega) (Nat.zero_le _)
  rw [origX_len] at hlp
  have hnp : ((patG (insX E) (origX len) 0 p).length : Int) = n := by omega
  have HP := Lib.hid (plength_any hs hwf.wf hE' hCp hTp (by omega) (len : Int))
  rw [hp, show errV 0 = .nilIface from rfl] at HP
  have HQ := Lib.hid (fun w (hw : Below W.heap.size W w) => plength_any (hs.below hw) hwf.wf hE' (hCq.below hw) hTq (by omega) n)
  rw [hq, show errV 0 = .nilIface from rfl] at HQ
  obtain ⟨pa, pc, rfl⟩ := hCp.len
  obtain ⟨qa, qc, rfl⟩ := hCq.len
  have hnk : nk (bothX E len p q) ≤ Mx := by
    have h1 := nk_patG (E := E) (t := origX len) p (-1) 0 o3 (by omega)
    have h2 := nk_patG (E := E) (t := patG (insX E) (origX len) 0 p) q (-1) 0 u3 (by omega)
    rw [List.drop_zero] at h1 h2
    have h0 : nk (origX len) = 0 := by unfold origX; rw [nk_exP]; rfl
    unfold bothX
    omega
  have HST : Hid (∀ j, j < 2 → ∃ vj b L, (#[Value.slice pa p.length pc, Value.slice qa q.length qc] : Array Value)[j]? = some vj ∧ Chs b W vj L ∧ Txs E L ∧ L.length ≤ 12 ∧ formF (stX E len p q j).length (-1) L = true ∧ stX E len p q (j + 1) = patG (insX E) (stX E len p q j) 0 L ∧ (stX E len p q j).length ≤ 1152921504606846976) := Lib.hid (fun j hj => by
    match j, hj with
    | 0, _ => exact ⟨_, bp, p, rfl, hCp, hTp, hLp, by show formF (origX len).length (-1) p = true; rw [origX_len]; exact o3, rfl, by show (origX len).length ≤ _; rw [origX_len]; omega⟩
    | 1, _ => exact ⟨_, bq, q, rfl, hCq, hTq, hLq, by show formF (patG (insX E) (origX len) 0 p).length (-1) q = true; rw [hnp]; exact u3, rfl, by show (patG (insX E) (origX len) 0 p).length ≤ _; omega⟩)
  have hMt : ∀ l : List Pcx, PcL E len l → True := fun _ _ => trivial
  have HS := Lib.hid hs; have HWF := Lib.hid hwf; have HD := Lib.hid hD; have HN0 := Lib.hid hs.lt
  have HNN := Lib.hid (And.intro hroom (And.intro hE (And.intro hE' (And.intro hnk (show len ≤ 1152921504606846976 by omega)))))
  have HORD := Lib.hid (fun (l : List Pcx) (h : exA l = bothX E len p q) (hn : ∀ y ∈ l, 0 < y.n) => both_ord o3 u3 h hn)
  have HTT := Lib.hid (And.intro htp hM40)
  clear hs hwf hCp hTp hLp hCq hTq hLq hp hq hM htp hM40 hroom hE hE' hp0 hq0 o1 o2 o3 o4 o5 u1 u2 u3 u4 u5 hlp hnp hnk hMt hD
  go_enter Try.func39, Try.ntmps39
  go_wp2_with fail
  refine HP.out.mono ?_; rintro e w1 ⟨rfl, b1⟩
  have B1 := Lib.hid b1; clear b1
  go_wp2_with fail
  refine (HQ.out w1 B1.out).mono ?_; rintro e w2 ⟨rfl, b2⟩
  have B2 := Lib.hid (Below.after B1.out b2)
  clear b2
  obtain ⟨gp, hgp⟩ : ∃ g, w2.heap.size = g := ⟨_, rfl⟩
  obtain ⟨w3, hw3⟩ : ∃ w, w2.alloc (.cells #[.int .i64 0, .int .i64 0, .int .i64 (len : Int)] 138) = w := ⟨_, rfl⟩
  obtain ⟨gl, hgl⟩ : ∃ g, w3.heap.size = g := ⟨_, rfl⟩
  obtain ⟨w4, hw4⟩ : ∃ w, w3.alloc (.cells #[.slice pa p.length pc, .slice qa q.length qc] 28) = w := ⟨_, rfl⟩
  have b3 : Below w2.heap.size w2 w3 := by rw [← hw3]; exact (Below.refl _ _).alloc (Nat.le_refl _) _
  have b4 : Below w3.heap.size w3 w4 := by rw [← hw4]; exact (Below.refl _ _).alloc (Nat.le_refl _) _
  have hP3 : Pcs w2.heap.size w3 (.slice (some ⟨w2.heap.size, 0, none⟩) 1 1) [⟨0, 0, len⟩] := by rw [← hw3]; exact lit_pc w2 len
  rw [hgp] at hP3
  have B4 := Lib.hid (B2.out.trans ((Below.after b3 b4).mono B2.out.size))
  have HP4 : Hid (Pcs W.heap.size w4 (.slice (some ⟨gp, 0, none⟩) 1 1) [⟨0, 0, len⟩]) := Lib.hid (SlA.lower (hP3.below b4) (by rw [← hgp]; exact B2.out.size))
  have HL4 : Hid (w4.heap[gl]? = some (.cells #[.slice pa p.length pc, .slice qa q.length qc] 28)) := Lib.hid (by rw [← hw4, ← hgl]; exact heap_new' _ _)
  clear b3 b4 hP3
  go_wp2_with fail
  clear hw3 hw4 hgp hgl
  go_loopw [14, 44] (fun v c wr => ∃ (j : Nat) (l : List Pcx), j ≤ 2 ∧ c = .int .i64 j ∧ Pcs W.heap.size wr v l ∧ exA l = stX E len p q j ∧ PcL E len l ∧ (0 < j → ∀ y ∈ l, 0 < y.n) ∧ l.length ≤ 1 + 37 * j ∧ Below w4.heap.size w4 wr) (fun _ c _ => 2 - (intOf c).toNat)
  case atStart => exact ⟨0, [⟨0, 0, len⟩], by omega, rfl, HP4.out, by show exP _ ++ [] = _; rw [List.append_nil]; rfl, fun y hy => by simp at hy; subst hy; exact ⟨Nat.zero_le _, rfl, fun h => absurd rfl h, fun _ => by simp⟩, fun h => absurd h (Nat.lt_irrefl _), by simp, Below.refl _ _⟩
  case round =>
    obtain ⟨j, l, hj, rfl, hl, hex, hq, hpos, hln, hbw⟩ := hrel
    obtain ⟨la, lc, hlv⟩ := hl.len
    obtain ⟨ln, hlne⟩ : ∃ n, l.length = n := ⟨_, rfl⟩
    rw [hlne] at hlv
    subst hlv
    have HB4 : Hid (Below W.heap.size W wr) := Lib.hid (B4.out.trans (hbw.mono B4.out.size))
    by_cases hlt : j < 2
    · have hlt2 : (j : Int) < 2 := by omega
      obtain ⟨vj, b, L, hvj, hCL, hTL, hLL, hfL, hst, hsz⟩ := HST.out j hlt
      have hcell : wr.cell? ⟨gl, j, none⟩ = some vj := by
        have := below_block hbw HL4.out
        simp only [World.cell?, this]
        simpa using hvj
      obtain ⟨va, vc, rfl⟩ := hCL.len
      have hdt := And.intro hTL (And.intro hLL hfL)
      rw [← hex] at hfL hst hsz
      have HRP := Lib.hid (repl_any (HS.out.below HB4.out) HWF.out HNN.out.2.2.1 (Pcs.row hl) hq HNN.out.2.2.2.2 (by omega) (hCL.below HB4.out) hTL (by omega) hfL hsz)
      unfold ReplP at HRP
      rw [← hst] at HRP
      have HJ := Lib.hid (And.intro hlt (And.intro hln hLL))
      have HBW := Lib.hid hbw
      obtain ⟨G, hG⟩ : ∃ G, stX E len p q (j + 1) = G := ⟨_, rfl⟩
      rw [hG] at hst HRP
      have HG := Lib.hid hG
      clear hG
      have hlo : W.heap.size ≤ wr.heap.size := HB4.out.size
      clear hl hex hq hpos hln hbw hvj hCL hTL hLL hfL hst hsz hdt hlne
      go_wp2_with fail
      clear hcell
      refine HRP.out.mono ?_
      rintro e w5 ⟨v5, l5, rfl, hP5, f1, f2, f3, f4, b5⟩
      have HX := Lib.hid (And.intro (SlA.lower hP5 hlo) (And.intro f1 (And.intro f2 (And.intro f3 (And.intro f4 b5)))))
      clear hP5 f1 f2 f3 f4 b5 HRP
      go_wp2_with fail
      go_roundw
      case rel =>
        obtain ⟨f0, f1, f2, f3, f4, b5⟩ := HX.out
        have := HJ.out
        exact ⟨j + 1, l5, by omega, by go_num, f0, f1.trans HG.out.symm, f2, fun _ => f3, by omega, HBW.out.trans (b5.mono HBW.out.size)⟩
      case measure => have := HJ.out.1; simp [intOf]; omega
    · obtain rfl : j = 2 := by omega
      have hps := hpos (by omega)
      have hex2 : exA l = bothX E len p q := hex
      have hmul : (l.length + 1) * (secK D + (3 * D + 1)) ≤ 80 * (secK D + (3 * D + 1)) := Nat.mul_le_mul_right _ (by omega)
      have hnn := HNN.out
      have HCO := Lib.hid (collect_any HD.out (HS.out.below HB4.out) HWF.out hl HN0.out HB4.out.size hq (HORD.out l hex2 hps) hnn.2.2.2.2 (by omega) (by rw [insN_nk, hex2]; exact hnn.2.2.2.1) (both_txt HTT.out.2 HTT.out.1 hex2 hps) (by omega) (by omega))
      rw [hlne] at HCO
      have HF := Lib.hid (And.intro hex2 (And.intro hps (And.intro hmul hln)))
      have HLN := Lib.hid hlne
      clear hl hex hq hpos hln hbw hlne hps hex2 hmul hnn hj
      go_wp2_with fail
      refine HCO.out.mono ?_
      rintro e w5 ⟨E5, M5, v5, rfl, s5, f5, x5, n5, c5, col5, m5, b5, k5⟩
      have HFIN : Hid (CmpP n0 B most (80 * (secK D + (3 * D + 1))) E W len p q (.returned (.tuple #[v5, .nilIface])) w5) := Lib.hid (by
        obtain ⟨hex2, hps, hmul, hln⟩ := HF.out
        have hl := HLN.out
        rw [hl] at hmul
        exact ⟨E5, M5, l, v5, rfl, s5, f5, x5, by omega, SlA.lower c5 HB4.out.size, hex2, hps, col5, by omega, (HB4.out.mono HN0.out).trans b5, (KtP.of (Kt.of HB4.out)).trans k5⟩)
      clear s5 f5 x5 n5 c5 col5 m5 b5 k5
      go_wp2_with fail
      go_ret2
      exact HFIN.out
end M
end Go.Proofs.Ytplccefjljdjnaa
namespace Go.Proofs.Ytplccefjljdjnaa
open Go.RowKit Go.Lib
namespace M
attribute [local go_sem] Oper.semAt_some
theorem patG_congr {α : Type} {i1 i2 : Chg → List α} {t : List α} : ∀ (L : List Chg) (f : Nat), (∀ c ∈ L, i1 c = i2 c) → patG i1 t f L = patG i2 t f L
  | [], _, _ => rfl
  | c :: L, f, h => by
    show (t.drop f).take (c.pos.toNat - f) ++ (i1 c ++ patG i1 t (c.pos + c.n).toNat L) = (t.drop f).take (c.pos.toNat - f) ++ (i2 c ++ patG i2 t (c.pos + c.n).toNat L)
    rw [h c (by simp), patG_congr L _ (fun d hd => h d (by simp [hd]))]
theorem both_ext {E E2 : List En} (hx : Ext E E2) {len : Nat} {p q : List Chg} (hp : Txs E p) (hq : Txs E q) : bothX E2 len p q = bothX E len p q := by
  have hi : ∀ c : Chg, c.id ≤ E.length → insX E2 c = insX E c := fun c h => by unfold insX; rw [hx.txt h]
  unfold bothX
  rw [patG_congr q 0 (fun c hc => hi c (hq c hc).1), patG_congr (i1 := insX E2) (i2 := insX E) p 0 (fun c hc => hi c (hp c hc).1)]
theorem Txs.ext {E E2 : List En} (hx : Ext E E2) {L : List Chg} (h : Txs E L) : Txs E2 L := fun c hc => ⟨Nat.le_trans (h c hc).1 hx.le, by rw [hx.ent (h c hc).1]; exact (h c hc).2⟩
theorem dep16 : Dep 16 2000 := ⟨by decide, by decide⟩
theorem ktp_chs {b0 : Nat} {A C : World} {v : Value} {L : List Chg} (h : Chs b0 A v L) (hk : KtP A C) : Chs b0 C v L := h.keep (fun k cs fz e => hk _ (by decide) (by decide) (by decide) k cs fz e)
set_option maxRecDepth 100000 in
set_option maxHeartbeats 8000000 in
theorem composes_any {W : World} {c : Value} {S : List Spc} (hS : RowSp W c S) (hlow : LowS W c) {c2 : Value} {S2 : List Spc} (hS2 : RowSp W c2 S2) (hlow2 : LowS W c2) (len x nn : Int) (r : Bool) :
    Calls Try.prog 13 #[.agg #[.int .i64 len, c, .int .i64 x, .int .i64 nn, .bool r], c2] W fun e w' => e = .returned (.bool true) ∧ Below W.heap.size W w' := by
  obtain ⟨W1, hW1⟩ : ∃ w, W.alloc (.cells #[.int .i64 len, c, .int .i64 x, .int .i64 nn, .bool r] 24) = w := ⟨_, rfl⟩
  have b1 : Below W.heap.size W W1 := by rw [← hW1]; exact (Below.refl _ W).alloc (Nat.le_refl _) _
  have k1 : CaC W1 W.heap.size len c x nn r := by rw [← hW1]; exact heap_new' W _
  obtain ⟨gc, hgc⟩ : ∃ g, W.heap.size = g := ⟨_, rfl⟩
  have hgl : gc < W1.heap.size := by rw [← hgc, ← hW1]; simp
  have HS1 := Lib.hid (hS.below b1)
  have HS2 := Lib.hid (hS2.below b1)
  have HSM := Lib.hid (small_any (hS.below b1))
  have HSN := Lib.hid (small_any (hS2.below b1))
  have HLW : Hid (∀ (a : Addr) n k, c = .slice (some a) n k → 0 < n → a.block < W1.heap.size) := Lib.hid (fun a n k h h0 => Nat.lt_of_lt_of_le (hlow a n k h h0) b1.size)
  have HLX : Hid (∀ (a : Addr) n k, c2 = .slice (some a) n k → 0 < n → a.block < W1.heap.size) := Lib.hid (fun a n k h h0 => Nat.lt_of_lt_of_le (hlow2 a n k h h0) b1.size)
  obtain ⟨a, cap, rfl, -⟩ := hS
  obtain ⟨a2, cap2, rfl, -⟩ := hS2
  have B1 := Lib.hid b1
  rw [hgc] at k1
  have HKC : Hid (∀ w, Below W1.heap.size W1 w → CaC w gc len (.slice a S.length cap) x nn r) := Lib.hid (fun w hw => by have := hw.block gc hgl; unfold CaC; rw [this]; exact k1)
  obtain ⟨c0, c1, c2', c3, c4⟩ := k1.cells
  have HBE : Hid (∀ w, Below W1.heap.size W1 w → Below W.heap.size W w) := Lib.hid (fun w hw => b1.trans (hw.mono b1.size))
  have HRG := Lib.hid (range01_any W1 x 0 len)
  clear b1 hlow hlow2 hgl k1
  cases hsm : smallF S with
  | false =>
    rw [hsm] at HSM
    go_enter Try.func13, Try.ntmps13
    go_wp2_with fail
    refine HSM.out.mono ?_; rintro e w ⟨rfl, h⟩; rw [h]; clear h w
    go_wp2_with fail
    go_ret
    exact ⟨rfl, B1.out⟩
  | true =>
  rw [hsm] at HSM
  have HSY := Lib.hid hsm
  clear hsm
  cases hsn : smallF S2 with
  | false =>
    rw [hsn] at HSN
    go_enter Try.func13, Try.ntmps13
    go_wp2_with fail
    refine HSM.out.mono ?_; rintro e w ⟨rfl, h⟩; rw [h]; clear h w
    go_wp2_with fail
    refine HSN.out.mono ?_; rintro e w ⟨rfl, h⟩; rw [h]; clear h w
    go_wp2_with fail
    go_ret
    exact ⟨rfl, B1.out⟩
  | true =>
  rw [hsn] at HSN
  have HSZ := Lib.hid hsn
  clear hsn
  cases hrg : rngB x 0 len with
  | false =>
    rw [hrg] at HRG
    go_enter Try.func13, Try.ntmps13
    go_wp2_with fail
    refine HSM.out.mono ?_; rintro e w ⟨rfl, h⟩; rw [h]; clear h w
    go_wp2_with fail
    refine HSN.out.mono ?_; rintro e w ⟨rfl, h⟩; rw [h]; clear h w
    go_wp2_with fail
    refine HRG.out.mono ?_; rintro e w ⟨rfl, h⟩; rw [h]; clear h w
    go_wp2_with fail
    go_ret
    exact ⟨rfl, B1.out⟩
  | true =>
  rw [hrg] at HRG
  have HXR : Hid (0 ≤ len ∧ len ≤ 1152921504606846976 ∧ 0 ≤ x ∧ x ≤ len) := Lib.hid (by
    obtain ⟨i1, i2, i3, i4, i5, i6⟩ := rngB_iff.1 hrg
    unfold maxL at i2
    exact ⟨i1, i2, i3, i5⟩)
  clear hrg
  have HNW := Lib.hid (snew_any W1 1048576 (by omega))
  rw [show ((1048576 : Nat) : Int) = 1048576 from rfl] at HNW
  go_enter Try.func13, Try.ntmps13
  go_wp2_with fail
  refine HSM.out.mono ?_; rintro e w ⟨rfl, h⟩; rw [h]; clear h w
  go_wp2_with fail
  refine HSN.out.mono ?_; rintro e w ⟨rfl, h⟩; rw [h]; clear h w
  go_wp2_with fail
  refine HRG.out.mono ?_; rintro e w ⟨rfl, h⟩; rw [h]; clear h w
  go_wp2_with fail
  refine HNW.out.mono ?_
  rintro e w2 ⟨B, rfl, s2, b2⟩
  have HMD := Lib.hid (madeT_any (k := 0) s2 .nil (by simp) (by omega) (HS1.out.below b2) HSY.out b2.size HLW.out)
  obtain ⟨d0, d1, d2, d3, d4⟩ := (HKC.out w2 b2).cells
  have B2 := Lib.hid b2
  clear s2 b2 HNW HSM HSN HRG c0 c1 c2' c3 c4 hW1
  go_wp2_with fail
  clear d0 d1 d2 d3 d4
  refine HMD.out.mono ?_
  rintro e w3 ⟨E3, p, v1, v2, rfl, ⟨y2, n2, z2, rfl⟩, hM, -, b3, -⟩
  have hb3 := B2.out.trans b3
  have HMD2 := Lib.hid (madeT_any (k := 960) hM.st hM.wf (by have := hM.few; omega) (by omega) (HS2.out.below hb3) HSZ.out hb3.size HLX.out)
  have HM3 := Lib.hid hM
  have B3 := Lib.hid hb3
  obtain ⟨l1, k1, rfl⟩ := hM.chs.len
  clear hM hb3 b3 HMD B2
  go_wp2_with fail
  refine HMD2.out.mono ?_
  rintro e w4 ⟨E4, q, v3, v4, rfl, ⟨y4, n4, z4, rfl⟩, hM4, hx4, b4, kt4⟩
  have HP4 : Hid (Mdk W1.heap.size B w4 S E4 p (.slice l1 p.length k1) w2.heap.size 1920) := Lib.hid (HM3.out.grow hM4.st hM4.wf hx4 (by have := hM4.few; omega) kt4)
  have HQ4 := Lib.hid hM4
  have B4 := Lib.hid (B3.out.trans b4)
  obtain ⟨l2, k2, rfl⟩ := hM4.chs.len
  clear hM4 hx4 b4 kt4 HMD2 HM3 B3
  have HAW := Lib.hid (awake_any w4)
  go_wp2_with fail
  refine HAW.out.mono ?_; rintro e w5 ⟨rfl, b5⟩
  have HP5 := Lib.hid (HP4.out.below b5)
  have HQ5 := Lib.hid (HQ4.out.below b5)
  have B5 : Hid (Below W1.heap.size W1 w5) := Lib.hid (B4.out.trans (b5.mono B4.out.size))
  clear b5 HAW HP4 HQ4 B4
  have HLN := Lib.hid (plength_any HP5.out.st HP5.out.wf.wf (Nat.le_trans HP5.out.few (by decide)) HP5.out.chs HP5.out.mt.2.1 (Nat.le_trans HP5.out.len (by decide)) len)
  obtain ⟨⟨n, ec⟩, hlp⟩ : ∃ z, lngF E4 len p = z := ⟨_, rfl⟩
  rw [hlp] at HLN
  dsimp only at HLN
  obtain ⟨d0, d1, d2, d3, d4⟩ := (HKC.out w5 B5.out).cells
  have HLQ := Lib.hid (fun w (hw : Below w5.heap.size w5 w) => plength_any (HQ5.out.st.below hw) HQ5.out.wf.wf (Nat.le_trans HQ5.out.few (by decide)) (HQ5.out.chs.below hw) HQ5.out.mt.2.1 (Nat.le_trans HQ5.out.len (by decide)) n)
  have HHP := Lib.hid hlp
  clear hlp
  by_cases hec : ec = 0
  rotate_left
  · have he : errV ec = .iface 54 (.int .i64 ec) := by unfold errV; rw [if_neg hec]; rfl
    rw [he] at HLN
    clear he hec
    go_wp2_with fail
    refine HLN.out.mono ?_; rintro e w6 ⟨rfl, b6⟩
    have B6 : Hid (Below W1.heap.size W1 w6) := Lib.hid (B5.out.trans (b6.mono B5.out.size))
    clear b6 d0 d1 d2 d3 d4
    go_wp2_with fail
    go_ret
    exact ⟨rfl, HBE.out _ B6.out⟩
  subst hec
  rw [show errV 0 = .nilIface from rfl] at HLN
  go_wp2_with fail
  clear d0 d1 d2 d3 d4
  refine HLN.out.mono ?_; rintro e w6 ⟨rfl, b6⟩
  have HB56 := Lib.hid b6
  have B6 : Hid (Below W1.heap.size W1 w6) := Lib.hid (B5.out.trans (b6.mono B5.out.size))
  clear b6 HLN
  obtain ⟨⟨nl, ed⟩, hlq⟩ : ∃ z, lngF E4 n q = z := ⟨_, rfl⟩
  rw [hlq] at HLQ
  dsimp only at HLQ
  have HHQ := Lib.hid hlq
  clear hlq
  by_cases hed : ed = 0
  rotate_left
  · have he : errV ed = .iface 54 (.int .i64 ed) := by unfold errV; rw [if_neg hed]; rfl
    rw [he] at HLQ
    clear he hed
    go_wp2_with fail
    refine (HLQ.out w6 HB56.out).mono ?_; rintro e w7 ⟨rfl, b7⟩
    have B7 : Hid (Below W1.heap.size W1 w7) := Lib.hid (B6.out.trans (b7.mono B6.out.size))
    clear b7
    go_wp2_with fail
    go_ret
    exact ⟨rfl, HBE.out _ B7.out⟩
  subst hed
  rw [show errV 0 = .nilIface from rfl] at HLQ
  go_wp2_with fail
  refine (HLQ.out w6 HB56.out).mono ?_; rintro e w7 ⟨rfl, b7⟩
  have B7 : Hid (Below W1.heap.size W1 w7) := Lib.hid (B6.out.trans (b7.mono B6.out.size))
  have hb57 := Below.after HB56.out b7
  have HP7 := Lib.hid (HP5.out.below hb57)
  have HQ7 := Lib.hid (HQ5.out.below hb57)
  clear b7 hb57 HLQ HP5 HQ5 HB56
  obtain ⟨ln, hln⟩ : ∃ k : Nat, len = (k : Int) := ⟨len.toNat, by have := HXR.out; omega⟩
  subst hln
  have h4 : secK 16 = 1617 := rfl
  have hfw := HP7.out.few
  have q1 : insF E4 p + insF E4 q ≤ 2000 := by
    have h1 := insF_le E4 p 40 HP7.out.tl; have h2 := insF_le E4 q 40 HQ7.out.tl
    have h3 := HP7.out.len; have h4 := HQ7.out.len
    omega
  have q3 : E4.length + 80 * (secK 16 + (3 * 16 + 1)) ≤ 1048576 := by rw [h4]; omega
  have HCO := Lib.hid (compose_any dep16 HP7.out.st HP7.out.wf HP7.out.chs HP7.out.mt.2.1 HP7.out.len HQ7.out.chs HQ7.out.mt.2.1 HQ7.out.len HHP.out HHQ.out q1 (by decide) (fun d hd => (List.mem_append.1 hd).elim (HP7.out.tl d) (HQ7.out.tl d)) q3 q3)
  have HQ3 := Lib.hid q3
  clear h4 hfw q1 q3
  obtain ⟨d0, d1, d2, d3, d4⟩ := (HKC.out w7 B7.out).cells
  go_wp2_with fail
  clear d0 d1 d2 d3 d4
  refine HCO.out.mono ?_
  rintro e w8 ⟨E8, M8, pl, v8, rfl, s8, f8, x8, n8, c8, ex8, ps8, col8, m8, b8, k8⟩
  have B8 : Hid (Below W1.heap.size W1 w8) := Lib.hid (B7.out.trans b8)
  have HF8 : Hid (E8.length ≤ 1048576) := Lib.hid (Nat.le_trans n8 HQ3.out)
  have hidp : ∀ d ∈ p, d.id ≤ E4.length := fun d hd => (HP7.out.mt.2.1 d hd).1
  have hidq : ∀ d ∈ q, d.id ≤ E4.length := fun d hd => (HQ7.out.mt.2.1 d hd).1
  have hp8 : lngF E8 (ln : Int) p = (n, 0) := by rw [lngF_ext x8 hidp]; exact HHP.out
  have hq8 : lngF E8 n q = (nl, 0) := by rw [lngF_ext x8 hidq]; exact HHQ.out
  have hcp := com_plain hp8 hq8 (by rw [both_ext x8 HP7.out.mt.2.1 HQ7.out.mt.2.1]; exact ex8) ps8 col8
  have HST := Lib.hid s8; have HWF := Lib.hid f8.wf
  have HCP := Lib.hid (ktp_chs HP7.out.chs k8); have HCQ := Lib.hid (ktp_chs HQ7.out.chs k8); have HCM := Lib.hid c8
  have HTP := Lib.hid (Txs.ext x8 HP7.out.mt.2.1); have HTQ := Lib.hid (Txs.ext x8 HQ7.out.mt.2.1); have HTM := Lib.hid col8.txs
  have HLL := Lib.hid (And.intro HP7.out.len (And.intro HQ7.out.len m8))
  obtain ⟨l3, k3, rfl⟩ := c8.len
  have hp80 : (lngF E8 (ln : Int) p).2 = 0 := by rw [hp8]
  have hq80 : (lngF E8 n q).2 = 0 := by rw [hq8]
  have hin1 := anc_in hp80 HXR.out.2.2 r
  rw [hp8] at hin1
  obtain ⟨⟨ra, xk⟩, hr1⟩ : ∃ z, ancF (mvsF E8 0 p) n (ln : Int) x r = z := ⟨_, rfl⟩
  dsimp only at hin1
  rw [hr1] at hin1
  dsimp only at hin1
  have hin2 := anc_in hq80 hin1 r
  rw [hq8] at hin2
  obtain ⟨⟨rb, yk⟩, hr2⟩ : ∃ z, ancF (mvsF E8 0 q) nl n ra r = z := ⟨_, rfl⟩
  obtain ⟨⟨rz, wk⟩, hr3⟩ : ∃ z, ancF (mvsF E8 0 M8) nl (ln : Int) x r = z := ⟨_, rfl⟩
  obtain ⟨u1, u2, u3, u4, u5⟩ := lngF_ok hq80
  have hpa : prepF E8 (ln : Int) p [(x, r)] = 0 := by
    rw [prep_one, if_pos ⟨HXR.out.1, HXR.out.2.1, HXR.out.2.2.1, HXR.out.2.2.2⟩]; exact hp80
  have hpb : prepF E8 n q [(ra, r)] = 0 := by
    rw [prep_one, if_pos ⟨u1, u2, hin1.1, hin1.2⟩]; exact hq80
  have hpc : prepF E8 (ln : Int) M8 [(x, r)] = 0 := by
    rw [prep_one, if_pos ⟨HXR.out.1, HXR.out.2.1, HXR.out.2.2.1, HXR.out.2.2.2⟩, hcp.1]
  have HEND : Hid (xk = true → yk = true → rz = rb ∧ wk = true) := Lib.hid (fun h1 h2 => by
    subst h1 h2
    have := hcp.2 x r ra rb HXR.out.2.2 hr1 hr2
    rw [hr3] at this
    simp only [Prod.mk.injEq] at this
    exact this)
  have HMA := Lib.hid (map_any HST.out HWF.out HF8.out HCP.out HTP.out (by have := HLL.out; omega) (ln : Int) x r)
  unfold MapP at HMA
  rw [hpa, hp8] at HMA
  dsimp only at HMA
  rw [hr1] at HMA
  dsimp only at HMA
  have HMB := Lib.hid (fun w (hw : Below w8.heap.size w8 w) => map_any (HST.out.below hw) HWF.out HF8.out (HCQ.out.below hw) HTQ.out (by have := HLL.out; omega) n ra r)
  unfold MapP at HMB
  rw [hpb, hq8] at HMB
  dsimp only at HMB
  rw [hr2] at HMB
  dsimp only at HMB
  have HMC := Lib.hid (fun w (hw : Below w8.heap.size w8 w) => map_any (HST.out.below hw) HWF.out HF8.out (HCM.out.below hw) HTM.out (by have := HLL.out; omega) (ln : Int) x r)
  unfold MapP at HMC
  rw [hpc, hcp.1] at HMC
  dsimp only at HMC
  rw [hr3] at HMC
  dsimp only at HMC
  clear s8 f8 x8 n8 c8 ex8 ps8 col8 m8 b8 k8 hidp hidq hp8 hq8 hcp hp80 hq80 hin1 hin2 hr1 hr2 hr3 u1 u2 u3 u4 u5 hpa hpb hpc HCO HP7 HQ7 HHP HHQ
  obtain ⟨d0, d1, d2, d3, d4⟩ := (HKC.out w8 B8.out).cells
  go_wp2_with fail
  clear d0 d1 d2 d3 d4
  refine HMA.out.mono ?_
  rintro e w9 ⟨⟨-, rfl⟩ | ⟨h, -⟩, b9⟩
  rotate_left
  · exact absurd rfl h
  clear HMA
  obtain ⟨wz, w10, hz, hs1, ka, ba, ⟨z0, z1⟩, f0, f1⟩ := newAn w9 ra r
  obtain ⟨gA, hg⟩ : ∃ g, w9.heap.size = g := ⟨_, rfl⟩
  rw [hg] at hs1 z0 z1 f0 f1 ka
  have b10 := Below.after b9 ba
  have B10 : Hid (Below W1.heap.size W1 w10) := Lib.hid (B8.out.trans (b10.mono B8.out.size))
  have H10 := Lib.hid b10
  have KA := Lib.hid ka
  obtain ⟨ay0, ay1, -, -⟩ := ka.cells
  clear ka ba b9 b10
  go_wp2_with fail
  clear hz hs1 z0 z1 f0 f1 hg ay0 ay1
  refine (HMB.out w10 H10.out).mono ?_
  rintro e w11 ⟨⟨-, rfl⟩ | ⟨h, -⟩, b11⟩
  rotate_left
  · exact absurd rfl h
  clear HMB
  obtain ⟨wz, w12, hz, hs1, kb, ba, ⟨z0, z1⟩, f0, f1⟩ := newAn w11 rb r
  obtain ⟨gB, hg⟩ : ∃ g, w11.heap.size = g := ⟨_, rfl⟩
  rw [hg] at hs1 z0 z1 f0 f1 kb
  have b12 := Below.after b11 ba
  have B12 : Hid (Below W1.heap.size W1 w12) := Lib.hid (B10.out.trans (b12.mono B10.out.size))
  have H12 : Hid (Below w8.heap.size w8 w12) := Lib.hid (Below.after H10.out b12)
  have KB := Lib.hid kb
  obtain ⟨d0, d1, d2, d3, d4⟩ := (HKC.out w12 B12.out).cells
  clear kb ba b11 b12
  go_wp2_with fail
  clear hz hs1 z0 z1 f0 f1 hg d0 d1 d2 d3 d4
  refine (HMC.out w12 H12.out).mono ?_
  rintro e w13 ⟨⟨-, rfl⟩ | ⟨h, -⟩, b13⟩
  rotate_left
  · exact absurd rfl h
  clear HMC
  obtain ⟨wz, w14, hz, hs1, kc, ba, ⟨z0, z1⟩, f0, f1⟩ := newAn w13 rz r
  obtain ⟨gC, hg⟩ : ∃ g, w13.heap.size = g := ⟨_, rfl⟩
  rw [hg] at hs1 z0 z1 f0 f1 kc
  have b14 := Below.after b13 ba
  have B14 : Hid (Below W1.heap.size W1 w14) := Lib.hid (B12.out.trans (b14.mono B12.out.size))
  obtain ⟨cy0, cy1, -, -⟩ := kc.cells
  obtain ⟨by0, by1, -, -⟩ := (show AnC w14 gB rb r from below_block b14 KB.out).cells
  clear kc ba b13 b14
  cases xk with
  | false =>
    go_wp2_with fail
    go_ret
    exact ⟨rfl, HBE.out _ B14.out⟩
  | true =>
  cases yk with
  | false =>
    go_wp2_with fail
    go_ret
    exact ⟨rfl, HBE.out _ B14.out⟩
  | true =>
  obtain ⟨rfl, rfl⟩ := HEND.out rfl rfl
  have hgd : Try.prog.eqGuardType Try.prog.depth 33 = false := by kernel_rfl
  have hae : ∀ w, (Op.equal 33 (.agg #[.int .i64 rz, .bool r]) (.agg #[.int .i64 rz, .bool r])).run Try.prog w = .ok true w := fun w => by rw [an_eq]; simp
  go_wp2_with fail
  go_ret
  exact ⟨by simp, HBE.out _ B14.out⟩
end M
end Go.Proofs.Ytplccefjljdjnaa
