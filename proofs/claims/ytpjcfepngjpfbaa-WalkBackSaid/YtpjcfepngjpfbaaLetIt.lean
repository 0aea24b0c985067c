/- walk.Letters: the iterator's contract. -/
import Derived.Test.YtpjcfepngjpfbaaLtk
import Derived.Test.YtpjcfepngjpfbaaCom
import Derived.RangeFuncCalls
import Derived.RangeFuncBound
import Derived.Sort.LoopGhostIn
import Derived.OwnWalkIn
set_option linter.unusedVariables false
set_option linter.unusedSimpArgs false
namespace Go.Proofs.Ytpjcfepngjpfbaa
open Go.RowKit Go.Lib
/-- What a round keeps for an iterator: blocks of types ts, maps below M. -/
structure KpI (ts : List TypeId) (M : Nat) (A B : World) : Prop where
  cells : ∀ t ∈ ts, KeepT t A B
  maps : ∀ k, k < M → ∀ es c, A.heap[k]? = some (.map es c) → B.heap[k]? = some (.map es c)
theorem KpI.trans {ts : List TypeId} {M : Nat} {A B C : World} (h : KpI ts M A B) (k : KpI ts M B C) : KpI ts M A C := ⟨fun t ht => (h.cells t ht).trans (k.cells t ht), fun i hi es c e => k.maps i hi es c (h.maps i hi es c e)⟩
theorem KpI.put {ts : List TypeId} {M : Nat} (W : World) (l : Nat) (o o' : Obj) (hl : M ≤ l) (ho : W.heap[l]? = some o) (hc : o.isCells = false) : KpI ts M W (W.putObj l o') := by
  refine ⟨fun t _ b cs fz e => ?_, fun k hk es c e => (World.putObj_heap_other (by omega)).trans e⟩
  refine (World.putObj_heap_other (fun h => ?_)).trans e
  subst h
  rw [e] at ho; cases ho; cases hc
/-- Letters with their offsets. -/
def lzs : List Nat → Nat → List (Nat × Nat)
  | [], _ => []
  | b :: t, a => (a, b) :: lzs t (a + 1)
theorem lzs_append : ∀ (s t : List Nat) (a : Nat), lzs (s ++ t) a = lzs s a ++ lzs t (a + s.length)
  | [], t, a => by simp [lzs]
  | b :: s, t, a => by
    show (a, b) :: lzs (s ++ t) (a + 1) = (a, b) :: (lzs s (a + 1) ++ lzs t (a + (s.length + 1)))
    rw [lzs_append s t (a + 1), show a + 1 + s.length = a + (s.length + 1) by omega]
theorem lzs_length : ∀ (s : List Nat) (a : Nat), (lzs s a).length = s.length
  | [], _ => rfl
  | b :: s, a => by show (lzs s (a + 1)).length + 1 = s.length + 1; rw [lzs_length s]
namespace M
attribute [local go_sem] Oper.semAt_some
/-- A store whose map lies below M. -/
def StB (n0 M : Nat) (W : World) (B most : Nat) (E : List En) : Prop := ∃ lv mb, StC W B most lv mb ∧ Ens n0 W lv E ∧ MapR W mb E ∧ n0 ≤ B ∧ n0 ≤ mb ∧ mb < M
theorem StAt.b {n0 B most : Nat} {W : World} {E : List En} (h : StAt n0 W B most E) {M : Nat} (hM : W.heap.size ≤ M) : StB n0 M W B most E := by
  obtain ⟨lv, mb, h1, h2, h3, h4, h5⟩ := h
  refine ⟨lv, mb, h1, h2, h3, h4, h5, ?_⟩
  obtain ⟨es, c, h6, -⟩ := h3
  have := (Array.getElem?_eq_some_iff.1 h6).1
  omega
theorem StB.st {n0 M B most : Nat} {W : World} {E : List En} (h : StB n0 M W B most E) : StAt n0 W B most E := by
  obtain ⟨lv, mb, h1, h2, h3, h4, h5, -⟩ := h
  exact ⟨lv, mb, h1, h2, h3, h4, h5⟩
theorem StB.kpl {ts : List TypeId} {n n0 M B most : Nat} {A C : World} {E : List En} (hs : StB n0 M A B most E) (h : KpL ts n A C) (h1 : 116 ∉ ts) (h2 : 122 ∉ ts) : StB n0 M C B most E := by
  obtain ⟨lv, mb, k1, k2, k3, k4⟩ := hs
  refine ⟨lv, mb, h.cells _ h1 _ _ _ k1, SlA.keep k2 (h.cells _ h2), ?_, k4⟩
  obtain ⟨es, c, h5, h6⟩ := k3
  exact ⟨es, c, h.others.same _ _ h5 rfl, h6⟩
theorem StB.kpi {ts : List TypeId} {n0 M B most : Nat} {A C : World} {E : List En} (hs : StB n0 M A B most E) (h : KpI ts M A C) (h1 : 116 ∈ ts) (h2 : 122 ∈ ts) : StB n0 M C B most E := by
  obtain ⟨lv, mb, k1, k2, k3, k4, k5, k6⟩ := hs
  refine ⟨lv, mb, h.cells _ h1 _ _ _ k1, SlA.keep k2 (h.cells _ h2), ?_, k4, k5, k6⟩
  obtain ⟨es, c, h5, h6⟩ := k3
  exact ⟨es, c, h.maps _ k6 _ _ h5, h6⟩
/-- The captured store. -/
def CpB (W : World) (g B : Nat) : Prop := W.heap[g]? = some (.cells #[.pointer (some ⟨B, 0, none⟩)] 23 (0, 0))
theorem CpB.cell {W : World} {g B : Nat} (h : CpB W g B) : W.cell? ⟨g, 0, none⟩ = some (.pointer (some ⟨B, 0, none⟩)) := by
  unfold CpB at h
  simp [World.cell?, h]
/-- What the iterator over letters has captured. -/
structure LtC (W : World) (g B : Nat) (id frm : Nat) : Prop where
  st : CpB W g B
  id : W.heap[g + 1]? = some (.cells #[.int .i64 id] 31 (0, 0))
  frm : W.heap[g + 2]? = some (.cells #[.int .i64 frm] 3 (0, 0))
theorem LtC.below {A C : World} {g B id frm : Nat} (h : LtC A g B id frm) (hb : Below A.heap.size A C) : LtC C g B id frm := ⟨below_block hb h.st, below_block hb h.id, below_block hb h.frm⟩
theorem LtC.cells {W : World} {g B id frm : Nat} (h : LtC W g B id frm) : W.cell? ⟨g, 0, none⟩ = some (.pointer (some ⟨B, 0, none⟩)) ∧ W.cell? ⟨g + 1, 0, none⟩ = some (.int .i64 id) ∧ W.cell? ⟨g + 2, 0, none⟩ = some (.int .i64 frm) := by
  refine ⟨h.st.cell, ?_, ?_⟩
  · have := h.id; simp [World.cell?, this]
  · have := h.frm; simp [World.cell?, this]
abbrev LtK : List TypeId := [23, 116, 122, 107, 102]
/-- Between two rounds. -/
def LtI (z gt g n0 M B most : Nat) (E : List En) (t0 : List Nat) (frm : Nat) (J : List (Nat × Nat) → World → Prop) (k : Nat) (av : Value) (wr : World) : Prop :=
  ∃ (a : Nat) (L : List Cp) (v : Value) (pre : List (Nat × Nat)), wkC E L = k ∧ av = .int .i64 a ∧ CxC wr gt v ∧ Cps z wr v L ∧ StkC E L ∧ (pre ++ lzs (dn E L) a = lzs t0 frm ∧ a + (dn E L).length ≤ 1152921504606846976) ∧ J pre wr ∧ StB n0 M wr B most E ∧ CpB wr g B ∧ z ≤ wr.heap.size
set_option maxRecDepth 100000 in
set_option maxHeartbeats 8000000 in
theorem letters_stops (n : Nat) {n0 B most g M : Nat} {w : World} {E : List En} {id frm : Nat} (hC : LtC w g B id frm) (hs : StAt n0 w B most E) (hwf : Wf E) (hE : E.length ≤ 1048576) (h0 : 0 < id) (hid : id ≤ E.length) (hfr : frm < (txt E id).length) (hM : w.heap.size ≤ M) :
    SeqStopsT Fence.wide n Try.prog 45 #[.pointer (some ⟨g, 0, none⟩), .pointer (some ⟨g + 1, 0, none⟩), .pointer (some ⟨g + 2, 0, none⟩)] (fun x : Nat × Nat => #[.int .i64 x.1, .int .u8 x.2]) (KpI LtK M) CpT (fun ys => ys = lzs ((txt E id).drop frm) frm) (fun pre => pre <+: lzs ((txt E id).drop frm) frm) (fun pre x => pre ++ [x] <+: lzs ((txt E id).drop frm) frm) w := by
  intro l J Jx W hW hJ _ hY hj0
  have HF : ∀ f, Fence.wide.fn f := fun _ => trivial
  have hlb := (hwf.len hid).2
  have hCW := hC.below hW
  obtain ⟨c0, c1, c2⟩ := hCW.cells
  have HCW := Lib.hid hCW
  have HSB := Lib.hid ((hs.b hM).kpl (KpL.of (ts := []) hW (Nat.le_refl _)) (by decide) (by decide))
  have HFW := Lib.hid (forward_any HSB.out.st hwf hE h0 hid hfr)
  have HCB := Lib.hid hCW.st
  have HWF := Lib.hid hwf
  obtain ⟨t0, ht0⟩ : ∃ t, (txt E id).drop frm = t := ⟨_, rfl⟩
  have HT0 : Hid (t0.length = (txt E id).length - frm ∧ frm + t0.length ≤ 1152921504606846976) := Lib.hid (by rw [← ht0, List.length_drop]; omega)
  rw [ht0] at HFW hY ⊢
  have HJ := Lib.hid hJ
  have HR : Hid (∀ pre x W1, J pre W1 → pre ++ [x] <+: lzs t0 frm → ∀ m, YieldAt Fence.wide m Try.prog l #[.int .i64 (x : Nat × Nat).1, .int .u8 x.2] W1 fun e W' => (e = .returned (.bool true) ∧ J (pre ++ [x]) W' ∧ KpI LtK M W1 W' ∧ W1.heap.size ≤ W'.heap.size) ∨ (e = .returned (.bool false) ∧ Jx (pre ++ [x]) W')) := Lib.hid (fun pre x W1 hj hl m => yield_anyDepth m (hY pre x W1 hj hl))
  have HJ0 := Lib.hid hj0
  clear hC hs hwf h0 hid hfr hCW ht0 hJ hY hj0 hlb hW
  refine callsIn_of_wp Try.func45 rfl trivial ?_ rfl
  simp only [Try.ntmps45, List.size_toArray, List.length_cons, List.length_nil, Nat.reduceAdd, Nat.reduceSub, Array.replicate_succ, Array.replicate_zero, List.push_toArray, List.append_toArray, List.nil_append, List.cons_append]
  gi_wp2_with fail
  refine ⟨(fun h => by cases h), callsIn_wide.2 (HFW.out.mono ?_)⟩
  rintro e w1 ⟨v, L0, rfl, hL0, hk0, hd0, b1⟩
  obtain ⟨va, vc, rfl⟩ := hL0.len
  obtain ⟨k0, hk00⟩ : ∃ k, L0.length = k := ⟨_, rfl⟩
  rw [hk00] at hL0 ⊢
  obtain ⟨gt, hgt⟩ : ∃ y, w1.heap.size = y := ⟨_, rfl⟩
  obtain ⟨w2, hw2⟩ : ∃ y, w1.alloc (.cells #[.slice va k0 vc] 102) = y := ⟨_, rfl⟩
  have x2 : CxC w2 gt (.slice va k0 vc) := by rw [← hw2, ← hgt]; exact heap_new' _ _
  have b2 : Below w1.heap.size w1 w2 := by rw [← hw2]; exact (Below.refl _ _).alloc (Nat.le_refl _) _
  have b12 := Below.after b1 b2
  obtain ⟨z, hz⟩ : ∃ y, W.heap.size = y := ⟨_, rfl⟩
  have hzw : z ≤ w2.heap.size := by rw [← hz]; exact b12.size
  have HST : Hid (LtI z gt g n0 M B most E t0 frm J (wkC E L0) (.int .i64 frm) w2) := Lib.hid ⟨frm, L0, _, [], rfl, rfl, x2, by rw [← hz]; exact hL0.below b2, hk0, ⟨by rw [hd0]; rfl, by rw [hd0]; exact HT0.out.2⟩, HJ.out _ _ _ HJ0.out (KpL.of b12 (Nat.le_refl _)), HSB.out.kpl (KpL.of (ts := []) b12 (Nat.le_refl _)) (by decide) (by decide), below_block b12 HCB.out, hzw⟩
  have HZ := Lib.hid hz
  have HGT : Hid (z ≤ gt) := Lib.hid (by rw [← hz, ← hgt]; exact b1.size)
  have d2 := (HCW.out.below b12).cells.2.2
  generalize wkC E L0 = wk at *
  clear hL0 hk0 hd0 b1 b2 b12 x2 hzw c0 c1 HCW HFW HSB HCB HJ0 hk00
  gi_wp2_with fail
  clear hw2 hgt d2 c2 hz
  gi_loopg [6] wk (fun k av wr => LtI z gt g n0 M B most E t0 frm J k av wr)
  case atStart => exact HST.out
  case round =>
    clear HST
    obtain ⟨a, L, v, pre, hk, rfl, hx, hL, hsk, ⟨hpre, hab⟩, hj, hst, hcp, hzr⟩ := hrel
    have HX := Lib.hid hx; have HL := Lib.hid hL; have HSK := Lib.hid hsk; have HPR := Lib.hid hpre; have HAB := Lib.hid hab; have HJR := Lib.hid hj; have HST := Lib.hid hst; have HCP := Lib.hid hcp; have HZR := Lib.hid hzr; have HKW := Lib.hid hk
    obtain ⟨y0, -⟩ := hx.cell
    have y1 := hcp.cell
    clear hx hsk hpre hab hj hst hcp hzr hk
    rcases List.eq_nil_or_concat L with rfl | ⟨L', c, rfl⟩
    · obtain ⟨la, lc, rfl⟩ := hL.len
      have HEND : Hid (pre = lzs t0 frm) := Lib.hid (by have h := HPR.out; rw [← h]; show pre = pre ++ []; rw [List.append_nil])
      clear hL
      gi_wp2_with fail
      go_end0
      exact ⟨⟨_, rfl⟩, .inl ⟨pre, HEND.out, HJR.out⟩⟩
    · rw [List.concat_eq_append] at hL HL HSK HPR HAB HKW
      obtain ⟨gl, n1, cap, rfl, hn1⟩ : ∃ gl n1 cap, v = .slice (some ⟨gl, 0, none⟩) (n1 + 1) cap ∧ L'.length = n1 := by
        rcases hL.shape with ⟨-, h⟩ | ⟨gl, cap, h, -, -⟩
        · simp at h
        · exact ⟨gl, L'.length, cap, by rw [h, List.length_append, List.length_singleton], rfl⟩
      have htop := HSK.out.top
      have hnb : n1 ≤ 4000000 := by have := HSK.out.len; rw [List.length_append, List.length_singleton] at this; omega
      have HTK := Lib.hid (take_any HST.out.st hE hn1 hnb HX.out HL.out htop.1 HGT.out)
      have HOC := Lib.hid htop.1
      have HPOP := Lib.hid HSK.out.pop
      have HTOP : Hid ((popC L' c).length + 3 * c.id ≤ 3 * E.length + 3) := Lib.hid (by have h1 := HSK.out.pop.2; have h2 := htop.2; omega)
      have HDN := Lib.hid (dn_pop E L' c htop.1.one)
      have HWK := Lib.hid (wkC_pop E L' c htop.1.one)
      have HRL := Lib.hid (HWF.out.rule c.id htop.1.pos htop.1.le).cases
      obtain ⟨r, hr⟩ : ∃ r, (entAt E c.id).ru = r := ⟨_, rfl⟩
      rw [hr] at HTK HRL
      unfold ruV at HTK
      generalize popC L' c = P at *
      have hn2 : (0 : Int) < ((n1 + 1 : Nat) : Int) := by omega
      have HN1 := Lib.hid hn1
      clear hL htop hr hn1
      gi_wp2_with fail
      clear hn2 y0 y1
      refine ⟨(fun h => by cases h), callsIn_wide.2 (HTK.out.mono ?_)⟩
      rintro e w3 ⟨rfl, m, hm, x3, l3, k3⟩
      obtain ⟨wz, w4, hz4, hs4, kr, br, ⟨r0, r1, r2, r3, r4⟩, e0, e1, e2, e3, e4⟩ := newRu w3 r
      obtain ⟨gr, hgr⟩ : ∃ y, w3.heap.size = y := ⟨_, rfl⟩
      rw [hgr] at hs4 kr r0 r1 r2 r3 r4 e0 e1 e2 e3 e4
      obtain ⟨q0, q1, q2, q3, q4⟩ := kr.cells
      have k34 := k3.trans (KpL.of (ts := CpT) br (Nat.le_trans HZR.out k3.below.size))
      have X4 := Lib.hid (show CxC w4 gt (.slice (some ⟨gl, 0, none⟩) m cap) from below_block br x3)
      have L4 := Lib.hid (SlA.below l3 br)
      have J4 := Lib.hid (HJ.out _ _ _ HJR.out (by rw [HZ.out]; exact k34))
      have S4 := Lib.hid (HST.out.kpl k34 (by decide) (by decide))
      have C4 : Hid (CpB w4 g B) := Lib.hid (k34.cells _ (by decide) _ _ _ HCP.out)
      have Z4 : Hid (z ≤ w4.heap.size) := Lib.hid (Nat.le_trans HZR.out k34.below.size)
      have HM := Lib.hid hm
      obtain ⟨y0, yf⟩ := X4.out.cell
      clear hm x3 l3 k3 kr br k34 HTK HX HL HJR HST HCP HZR
      have HFIN : Hid (∀ (w5 : World) (v5 : Value) (Ln : List Cp), Cps z w5 v5 Ln → KpL CpT z w4 w5 → CxC w5 gt (.slice (some ⟨gl, 0, none⟩) m cap) → StkC E Ln → dn E Ln = dn E (L' ++ [c]) → LtI z gt g n0 M B most E t0 frm J (wkC E Ln) (.int .i64 a) (w5.setCell ⟨gt, 0, none⟩ v5)) := Lib.hid (by
        intro w5 v5 Ln hc hkp hx hst hd
        have kp := hkp.set (p := ⟨gt, 0, none⟩) hx (by simp) HGT.out v5
        refine ⟨a, Ln, v5, pre, rfl, rfl, ?_, SlA.setCell hc (a := ⟨gt, 0, none⟩) _ hx (by decide), hst, ⟨by rw [hd]; exact HPR.out, by rw [hd]; exact HAB.out⟩, HJ.out _ _ _ J4.out (by rw [HZ.out]; exact kp), S4.out.kpl kp (by decide) (by decide), kp.cells _ (by decide) _ _ _ C4.out, Nat.le_trans Z4.out kp.others.size⟩
        unfold CxC at hx ⊢
        exact heap_set0 _ hx)
      rcases HRL.out with ⟨hk, -, -, -, -, htx⟩ | ⟨hk, -, l0, l1, rr0, rr1, -, htx⟩ | ⟨hk, -, l0, l1, -, t2, t3, htx⟩
      · have hk1 : ((r.kind : Int) == 1) = true := by simp [hk]
        have HA1 : Hid (a + 1 + (dn E P).length ≤ 1152921504606846976) := Lib.hid (by have h := HAB.out; rw [HDN.out, htx, List.length_append] at h; simp at h; omega)
        have HP2 : Hid ((pre ++ [(a, r.letter)]) ++ lzs (dn E P) (a + 1) = lzs t0 frm) := Lib.hid (by
          rw [← HPR.out, HDN.out, htx, List.append_assoc]; rfl)
        obtain ⟨fn, tmps, assign, body, hy, hRR⟩ := HR.out pre (a, r.letter) w4 J4.out ⟨_, HP2.out⟩ (n - 1)
        dsimp only at hy
        have HRR := Lib.hid hRR
        have haw : IntKind.i64.wrap ((a : Int) + 1) = ((a + 1 : Nat) : Int) := by rw [IntKind.wrap_i64]; have := HA1.out; omega
        have HLT : Hid (wkC E P < gk) := Lib.hid (by have h1 := HKW.out; have h2 := HWK.out; rw [htx] at h2; simp at h2; omega)
        clear hk hRR htx
        gi_wp2_with fail
        refine ⟨(fun h => by cases h), HRR.out.mono ?_⟩
        rintro e w5 (⟨rfl, hj5, hkp, hsz⟩ | ⟨rfl, hjx⟩)
        · have X5 : Hid (CxC w5 gt (.slice (some ⟨gl, 0, none⟩) m cap)) := Lib.hid (hkp.cells _ (by decide) _ _ _ X4.out)
          have L5 := Lib.hid (SlA.keep L4.out (hkp.cells _ (by decide)))
          have S5 := Lib.hid (S4.out.kpi hkp (by decide) (by decide))
          have C5 : Hid (CpB w5 g B) := Lib.hid (hkp.cells _ (by decide) _ _ _ C4.out)
          have J5 := Lib.hid hj5
          have Z5 : Hid (z ≤ w5.heap.size) := Lib.hid (Nat.le_trans Z4.out hsz)
          clear hj5 hkp hsz hz4 hs4 r0 r1 r2 r3 r4 e0 e1 e2 e3 e4 q0 q1 q2 q3 q4 y0 yf hgr
          gi_wp2_with fail
          gi_roundg (wkC E P)
          case measure => exact HLT.out
          case rel => exact ⟨a + 1, P, _, pre ++ [(a, r.letter)], rfl, by go_num, X5.out, L5.out, HPOP.out.1, ⟨HP2.out, HA1.out⟩, J5.out, S5.out, C5.out, Z5.out⟩
        · have HJX := Lib.hid hjx
          clear hjx hz4 hs4 r0 r1 r2 r3 r4 e0 e1 e2 e3 e4 q0 q1 q2 q3 q4 y0 yf hgr
          gi_wp2_with fail
          refine bodyPost_ret (results_none rfl _ _ _) rfl ?_
          exact ⟨⟨_, rfl⟩, .inr ⟨pre ++ [(a, r.letter)], ⟨_, HP2.out⟩, HJX.out⟩⟩
      · have hk1 : ((r.kind : Int) == 1) = false := by simp [hk]
        have hk2 : ((r.kind : Int) == 2) = true := by simp [hk]
        have HNX : Hid (StkC E (P ++ [⟨r.right, 1⟩, ⟨r.left, 1⟩]) ∧ dn E (P ++ [⟨r.right, 1⟩, ⟨r.left, 1⟩]) = dn E (L' ++ [c])) := Lib.hid (by
          have h1 := HTOP.out; have h2 := HOC.out
          have h3 := h2.le
          refine ⟨?_, ?_⟩
          · rw [show P ++ [(⟨r.right, 1⟩ : Cp), ⟨r.left, 1⟩] = (P ++ [⟨r.right, 1⟩]) ++ [⟨r.left, 1⟩] by simp]
            exact (HPOP.out.1.push ⟨rr0, by dsimp only; omega, by dsimp only; omega, by dsimp only; omega⟩ (by dsimp only; omega)).push ⟨l0, by dsimp only; omega, by dsimp only; omega, by dsimp only; omega⟩ (by rw [List.length_append, List.length_singleton]; dsimp only; omega)
          · rw [show P ++ [(⟨r.right, 1⟩ : Cp), ⟨r.left, 1⟩] = (P ++ [⟨r.right, 1⟩]) ++ [⟨r.left, 1⟩] by simp, dn_snoc, dn_snoc, rep_one, rep_one, HDN.out, htx, List.append_assoc])
        have HLT : Hid (wkC E (P ++ [⟨r.right, 1⟩, ⟨r.left, 1⟩]) < gk) := Lib.hid (by
          have h3 := HOC.out.le
          have p1 := (HWF.out.get r.left l0 (by omega)).2.2.1
          have p2 := (HWF.out.get r.right rr0 (by omega)).2.2.1
          have h1 := HKW.out; have h2 := HWK.out
          have h4 := wk_pair p1 p2
          rw [htx, List.length_append] at h2
          rw [show P ++ [(⟨r.right, 1⟩ : Cp), ⟨r.left, 1⟩] = (P ++ [⟨r.right, 1⟩]) ++ [⟨r.left, 1⟩] by simp, wkC_snoc, wkC_snoc]
          dsimp only
          omega)
        have HLN : Hid (P.length ≤ 3 * E.length + 3) := Lib.hid (by have := HTOP.out; omega)
        obtain ⟨Wc, hWc⟩ : ∃ w, w4.alloc (.cells #[.int .i64 r.right, .int .i64 1, .int .i64 r.left, .int .i64 1] 107) = w := ⟨_, rfl⟩
        have lc : Cps w4.heap.size Wc (.slice (some ⟨w4.heap.size, 0, none⟩) 2 2) [⟨r.right, 1⟩, ⟨r.left, 1⟩] := by rw [← hWc]; exact SlA.lit (l := [⟨r.right, 1⟩, ⟨r.left, 1⟩]) encC_len rfl (by simp; unfold maxLen; omega)
        have bc : Below w4.heap.size w4 Wc := by rw [← hWc]; exact (Below.refl _ _).alloc (Nat.le_refl _) _
        have HLC := Lib.hid lc
        have HSC := Lib.hid (SlA.below L4.out bc)
        have HZC : Hid (z ≤ Wc.heap.size) := Lib.hid (Nat.le_trans Z4.out bc.size)
        have HKC : Hid (KpL CpT z w4 Wc) := Lib.hid (KpL.of bc Z4.out)
        have HXC : Hid (CxC Wc gt (.slice (some ⟨gl, 0, none⟩) m cap)) := Lib.hid (below_block bc X4.out)
        clear lc bc hk l0 l1 htx rr0 rr1
        gi_wp2_with (
          gi_at_builtin
          refine wp_catInO (l2 := [⟨r.right, 1⟩, ⟨r.left, 1⟩]) elemC encC_len encC_one rfl _ _ rfl rfl HSC.out rfl rfl HLC.out (by have := HLN.out; simp; omega) HZC.out ?_
          intro v5 w5 hS5 hg5 hb5
          obtain ⟨va5, vc5, rfl⟩ := hS5.len
          obtain ⟨nn, hnn⟩ : ∃ y, (P ++ [(⟨r.right, 1⟩ : Cp), ⟨r.left, 1⟩]).length = y := ⟨_, rfl⟩
          rw [hnn] at hS5 ⊢
          have HX5 : Hid (CxC w5 gt (.slice (some ⟨gl, 0, none⟩) m cap)) := Lib.hid (keep_own HSC.out hg5 (by decide) _ _ _ HXC.out)
          have HKP := Lib.hid (HKC.out.trans (KpL.own (ts := CpT) HSC.out hg5 HZC.out (by simp)))
          have HL5 := Lib.hid hS5
          obtain ⟨z0, zf⟩ := HX5.out.cell
          clear hS5 hg5 hb5 hnn)
        gi_roundg (wkC E (P ++ [⟨r.right, 1⟩, ⟨r.left, 1⟩]))
        case measure => exact HLT.out
        case rel => exact HFIN.out _ _ _ HL5.out HKP.out HX5.out HNX.out.1 HNX.out.2
      · have hk1 : ((r.kind : Int) == 1) = false := by simp [hk]
        have hk2 : ((r.kind : Int) == 2) = false := by simp [hk]
        have hk3 : ((r.kind : Int) == 3) = true := by simp [hk]
        have HNX : Hid (StkC E (P ++ [⟨r.left, r.times⟩]) ∧ dn E (P ++ [⟨r.left, r.times⟩]) = dn E (L' ++ [c])) := Lib.hid (by
          have h1 := HTOP.out; have h2 := HOC.out
          have h3 := h2.le
          refine ⟨HPOP.out.1.push ⟨l0, by dsimp only; omega, by dsimp only; omega, by dsimp only; omega⟩ (by dsimp only; omega), ?_⟩
          rw [dn_snoc, HDN.out, htx])
        have HLT : Hid (wkC E (P ++ [⟨r.left, r.times⟩]) < gk) := Lib.hid (by
          have h3 := HOC.out.le
          have p1 := (HWF.out.get r.left l0 (by omega)).2.2.1
          have h1 := HKW.out; have h2 := HWK.out
          have h4 := wk_power t2 p1
          rw [htx, rep_length] at h2
          rw [wkC_snoc]
          dsimp only
          omega)
        have HLN : Hid (P.length ≤ 3 * E.length + 3) := Lib.hid (by have := HTOP.out; omega)
        obtain ⟨Wc, hWc⟩ : ∃ w, w4.alloc (.cells #[.int .i64 r.left, .int .i64 r.times] 107) = w := ⟨_, rfl⟩
        have lc : Cps w4.heap.size Wc (.slice (some ⟨w4.heap.size, 0, none⟩) 1 1) [⟨r.left, r.times⟩] := by rw [← hWc]; exact SlA.lit (l := [⟨r.left, r.times⟩]) encC_len rfl (by simp; unfold maxLen; omega)
        have bc : Below w4.heap.size w4 Wc := by rw [← hWc]; exact (Below.refl _ _).alloc (Nat.le_refl _) _
        have HLC := Lib.hid lc
        have HSC := Lib.hid (SlA.below L4.out bc)
        have HZC : Hid (z ≤ Wc.heap.size) := Lib.hid (Nat.le_trans Z4.out bc.size)
        have HKC : Hid (KpL CpT z w4 Wc) := Lib.hid (KpL.of bc Z4.out)
        have HXC : Hid (CxC Wc gt (.slice (some ⟨gl, 0, none⟩) m cap)) := Lib.hid (below_block bc X4.out)
        clear lc bc hk l0 l1 htx t2 t3
        gi_wp2_with (
          gi_at_builtin
          refine wp_catInO (l2 := [⟨r.left, r.times⟩]) elemC encC_len encC_one rfl _ _ rfl rfl HSC.out rfl rfl HLC.out (by have := HLN.out; simp; omega) HZC.out ?_
          intro v5 w5 hS5 hg5 hb5
          obtain ⟨va5, vc5, rfl⟩ := hS5.len
          obtain ⟨nn, hnn⟩ : ∃ y, (P ++ [(⟨r.left, r.times⟩ : Cp)]).length = y := ⟨_, rfl⟩
          rw [hnn] at hS5 ⊢
          have HX5 : Hid (CxC w5 gt (.slice (some ⟨gl, 0, none⟩) m cap)) := Lib.hid (keep_own HSC.out hg5 (by decide) _ _ _ HXC.out)
          have HKP := Lib.hid (HKC.out.trans (KpL.own (ts := CpT) HSC.out hg5 HZC.out (by simp)))
          have HL5 := Lib.hid hS5
          obtain ⟨z0, zf⟩ := HX5.out.cell
          clear hS5 hg5 hb5 hnn)
        gi_roundg (wkC E (P ++ [⟨r.left, r.times⟩]))
        case measure => exact HLT.out
        case rel => exact HFIN.out _ _ _ HL5.out HKP.out HX5.out HNX.out.1 HNX.out.2
end M
end Go.Proofs.Ytpjcfepngjpfbaa
