/- Rows of letters. No walk.
Letters as a string; the law's Bytes.
avl.Join: a balanced ID of two balanced texts, one after the other.
law14's Made: a store with balanced texts; the steps that make them. No walk.
law14's Last; law17's offset.
law17's offset.
The arguments of the walk's laws, opened: Steps. No walk. -/
import Derived.Test.YtpjcfepngjpfbaaSop
import Derived.Test.YtpjcfepngjpfbaaCom
import Derived.Laws.BytesString
import Derived.Laws.Cells
import Derived.Test.YtpjcfepngjpfbaaAvl
import Derived.Test.YtpjcfepngjpfbaaAw
import Derived.Deep.Slices
import Derived.OpenShut
import Derived.ChangeMaps5
import Derived.Carry
set_option linter.unusedVariables false
set_option linter.unusedSimpArgs false
namespace Go.Proofs.Ytpjcfepngjpfbaa
open Go.RowKit Go.Lib
namespace M
attribute [local go_sem] Oper.semAt_some
theorem StAt.set {n0 B most g i : Nat} {W : World} {E : List En} (h : StAt n0 W B most E) {cs : Array Value} {t : TypeId} {fz : Nat × Nat} (hb : W.heap[g]? = some (.cells cs t fz)) (h1 : t ≠ 116) (h2 : t ≠ 122) (v : Value) : StAt n0 (W.setCell ⟨g, i, none⟩ v) B most E := by
  obtain ⟨lv, mb, k1, k2, k3, k4⟩ := h
  refine ⟨lv, mb, set_other (fun e => ?_) k1, SlA.setCell k2 v (a := ⟨g, i, none⟩) hb h2, MapR.of_block k3 (Below.heap_setCell _ _ _ _ (fun e => ?_)), k4⟩
  · subst e; unfold StC at k1; rw [hb] at k1; simp at k1; exact h1 k1.2.1
  · have e : mb = g := e
    subst e
    obtain ⟨es, c, h5, -⟩ := k3
    rw [hb] at h5; cases h5
theorem StAt.app {n0 n1 B most : Nat} {w0 w' : World} {E : List En} {α : Type} {e : TypeId} {size : Nat} {enc : α → List Value} {v : Value} {l : List α} {cs : Array Value} (h : StAt n0 w0 B most E) (hS : SlA n1 w0 e size enc v l) (hg : (w0.alloc (.cells cs e)).grownBy w' v.ownBlock) (h1 : 116 ≠ e) (h2 : 122 ≠ e) : StAt n0 w' B most E := by
  obtain ⟨lv, mb, k1, k2, k3, k4⟩ := h
  refine ⟨lv, mb, app_other hS hg k1 h1, SlA.keep k2 (fun k cs fz h => app_other hS hg h h2), ?_, k4⟩
  obtain ⟨es, c, h5, h6⟩ := k3
  exact ⟨es, c, (app_keepsOthers hS hg).same _ _ h5 rfl, h6⟩
def encB (n : Nat) : List Value := [.int .u8 n]
theorem encB_len (n : Nat) : (encB n).length = 1 := rfl
theorem encB_one (n : Nat) : ∀ u ∈ encB n, u.oneCell' = true := by simp [encB, Value.oneCell']
abbrev Bys (B : Nat) (W : World) (v : Value) (l : List Nat) : Prop := SlA B W 5 1 encB v l
theorem elemB : Elem Try.prog 32 5 1 1 := elem_of Try.underlying32 (z := .int .u8 0) (by kernel_rfl) rfl (by decide) (by decide)
theorem Bys.at {B : Nat} {W : World} {v : Value} {l : List Nat} (h : Bys B W v l) {i : Nat} (hi : i < l.length) :
    ∃ g cap, v = .slice (some ⟨g, 0, none⟩) l.length cap ∧ l.length ≤ cap ∧ cap ≤ maxLen ∧ ∀ (W' : World), Below W.heap.size W W' → ∀ i (hi : i < l.length), W'.cell? ⟨g, i, none⟩ = some (.int .u8 l[i]) := by
  rcases h.shape with ⟨-, rfl⟩ | ⟨g, cap, rfl, h1, h2⟩
  · simp at hi
  · refine ⟨g, cap, rfl, h1, h2, fun W' hb i hi => ?_⟩
    have h' := h.below hb
    have := SlA.cell encB_len h' hi (j := 0) (by omega)
    rw [Nat.mul_one] at this
    exact this
end M
end Go.Proofs.Ytpjcfepngjpfbaa
namespace Go.Proofs.Ytpjcfepngjpfbaa
open Go.RowKit Go.Lib
namespace M
attribute [local go_sem] Oper.semAt_some
def bstr (l : List Nat) : ByteArray := (l.map (fun n : Nat => (n : Int))).foldl (fun r n => r.push (UInt8.ofNat n.toNat)) ByteArray.empty
theorem conv_bys {B : Nat} {W : World} {v : Value} {l : List Nat} (h : Bys B W v l) : (convert 32 9 v).run Try.prog W = .ok (.string (bstr l)) W := by
  rcases h.shape with ⟨rfl, rfl⟩ | ⟨g, cap, rfl, h1, h2⟩
  · rw [run_convert_bytes_string (e := 5) W _ _ none 0 0 Try.underlying32 Try.underlying5 Try.underlying9]
    rfl
  · rw [run_convert_bytes_string (e := 5) W _ _ _ _ _ Try.underlying32 Try.underlying5 Try.underlying9]
    refine run_bytesToString W ⟨g, 0, none⟩ l.length cap (l.map (fun n : Nat => (n : Int))) ?_
    have := run_loadCells_list (P := Try.prog) W ⟨g, 0, none⟩ (l.flatMap encB) (fun j v hv => World.ownsRow.cells h (g := g) rfl j v hv)
    rw [flatMap_len encB_len, Nat.mul_one] at this
    rw [this]
    congr 1
    have e : ∀ l : List Nat, l.flatMap encB = (l.map (fun n : Nat => (n : Int))).map (Value.int .u8) := by
      intro l
      induction l with
      | nil => rfl
      | cons a l ih => simp [encB, ih]
    rw [e]
set_option maxRecDepth 100000 in
theorem bytes_any {B1 B2 : Nat} {W : World} {v1 v2 : Value} {l : List Nat} (h1 : Bys B1 W v1 l) (h2 : Bys B2 W v2 l) :
    Calls Try.prog 17 #[v1, v2] W fun e w' => e = .returned (.bool true) ∧ w' = W := by
  have c1 := conv_bys h1; have c2 := conv_bys h2
  generalize bstr l = s at *
  clear h1 h2
  go_enter Try.func17, Try.ntmps17
  go_wp2_with fail
  go_ret
  exact ⟨rfl, rfl⟩
end M
end Go.Proofs.Ytpjcfepngjpfbaa
namespace Go.Proofs.Ytpjcfepngjpfbaa
open Go.RowKit Go.Lib
namespace M
attribute [local go_sem] Oper.semAt_some
theorem Bal0.len {E : List En} (hE : WfD E) {i : Nat} {t : List Nat} (h : Bal0 E i t) : t.length ≤ 1152921504606846976 ∧ (entAt E i).w.len = t.length := by
  obtain ⟨a, b⟩ := hE.wf.len h.le
  rw [h.txt] at a b
  exact ⟨b, by rw [a]; rfl⟩
theorem Bal0.zero {E : List En} (hE : WfD E) {i : Nat} {t : List Nat} (h : Bal0 E i t) : i = 0 ↔ t = [] := by
  constructor
  · rintro rfl
    rw [← h.txt, txt_zero]
  · rintro rfl
    rcases Nat.eq_zero_or_pos i with g | g
    · exact g
    · have := (hE.wf.get i g h.le).2.2.1
      rw [h.txt] at this; simp at this
/-- What joining leaves. -/
def JnP (n0 B most k : Nat) (E : List En) (W : World) (t : List Nat) (e : Ending) (w' : World) : Prop := ∃ (E' : List En) (id : Nat), e = .returned (.tuple #[.int .i64 (id : Nat), .nilIface]) ∧ StAt n0 w' B most E' ∧ WfD E' ∧ Ext E E' ∧ E'.length ≤ E.length + k ∧ Bal0 E' id t ∧ Below n0 W w' ∧ Kt W w'
theorem JnP.ret {n0 B most k : Nat} {E : List En} {W w' : World} {t : List Nat} {e : Ending} (h : JnP n0 B most k E W t e w') : ∃ id : Nat, e = .returned (.tuple #[.int .i64 id, .nilIface]) := by
  obtain ⟨E', id, rfl, -⟩ := h
  exact ⟨id, rfl⟩
theorem JnP.after {n0 B most k k1 k2 : Nat} {E E1 : List En} {W w1 w' : World} {t t2 : List Nat} {e : Ending} (h : JnP n0 B most k2 E1 w1 t2 e w') (ht : t2 = t) (hx : Ext E E1) (hn : E1.length ≤ E.length + k1) (hk : k1 + k2 ≤ k) (hb : Below n0 W w1) (hkt : Kt W w1) : JnP n0 B most k E W t e w' := by
  obtain ⟨E', id, he, s, f, x, n, bl, b, kt⟩ := h
  subst ht
  exact ⟨E', id, he, s, f, hx.trans x, by omega, bl, hb.trans b, hkt.trans kt⟩
theorem JnP.read {n0 B most k : Nat} {E : List En} {W w1 w' : World} {t : List Nat} {e : Ending} (h : JnP n0 B most k E w1 t e w') (hb : Below W.heap.size W w1) (hn : n0 ≤ W.heap.size) : JnP n0 B most k E W t e w' :=
  h.after (k1 := 0) rfl (Ext.refl _) (by omega) (by omega) (hb.mono hn) (Kt.of hb)
theorem JoP.jn {n0 B most k lo hi : Nat} {E : List En} {W w' : World} {t : List Nat} {e : Ending} (h : JoP n0 B most k lo hi E W t e w') : JnP n0 B most k E W t e w' := by
  obtain ⟨E', id, d, he, s, f, x, n, bl, -, b, kt⟩ := h
  exact ⟨E', id, he, s, f, x, n, bl.zero, b, kt⟩
set_option maxRecDepth 100000 in
set_option maxHeartbeats 4000000 in
theorem avlJoin_any {n0 B most : Nat} {W : World} {E : List En} (hs : StAt n0 W B most E) (hwf : WfD E) {a b : Nat} {s t : List Nat} (ha : Bal0 E a s) (hb : Bal0 E b t) (hlen : s.length + t.length ≤ 1152921504606846976) (hroom : E.length + 260 ≤ most) (hE : E.length + 260 ≤ 1048576) :
    Calls Try.prog 41 #[.pointer (some ⟨B, 0, none⟩), .int .i64 a, .int .i64 b] W (JnP n0 B most 260 E W (s ++ t)) := by
  have hn0 := hs.lt
  have hE' : E.length ≤ 1048576 := by omega
  have HWA := Lib.hid (weight_any hs ha.le hE')
  have HWB : Hid (∀ w, Below W.heap.size W w → Calls Try.prog 39 #[.pointer (some ⟨B, 0, none⟩), .int .i64 b] w fun e w' => e = .returned (.tuple #[wtV (entAt E b).w, .nilIface]) ∧ Below w.heap.size w w') := Lib.hid (fun w hw => weight_any (hs.below hw) hb.le hE')
  have HEA : Hid (∀ w, Below W.heap.size W w → Calls Try.prog 83 #[.pointer (some ⟨B, 0, none⟩), .int .i64 a] w fun e w' => e = .returned (.bool true) ∧ Below w.heap.size w w') := Lib.hid (fun w hw => by have := even_any (hs.below hw) ha.le hE'; rwa [ha.even] at this)
  have HEB : Hid (∀ w, Below W.heap.size W w → Calls Try.prog 83 #[.pointer (some ⟨B, 0, none⟩), .int .i64 b] w fun e w' => e = .returned (.bool true) ∧ Below w.heap.size w w') := Lib.hid (fun w hw => by have := even_any (hs.below hw) hb.le hE'; rwa [hb.even] at this)
  obtain ⟨la, lb⟩ := ha.len hwf
  obtain ⟨ka, kb⟩ := hb.len hwf
  generalize (entAt E a).w = u at *
  generalize (entAt E b).w = v at *
  have HAD := Lib.hid (fun w => add1_any w (a := u.len) (b := v.len) (by omega) (by omega))
  simp only [if_pos (show u.len + v.len ≤ 1152921504606846976 by omega)] at HAD
  obtain ⟨sm, hsm⟩ : ∃ n, u.len + v.len = n := ⟨_, rfl⟩
  rw [hsm] at HAD
  have HS := Lib.hid hs; have HWF := Lib.hid hwf; have HA := Lib.hid ha; have HB' := Lib.hid hb; have HN0 := Lib.hid hn0
  have HNN := Lib.hid (And.intro hlen (And.intro hroom hE))
  have hcs : (a = 0) ∨ (a ≠ 0 ∧ b = 0) ∨ (a ≠ 0 ∧ b ≠ 0) := by omega
  unfold wtV at HWA HWB
  clear hs hwf ha hb hlen hroom hE hn0 la lb ka kb hsm hE'
  rcases hcs with ga | ⟨ga, gb⟩ | ⟨ga, gb⟩
  · have e1 : ((a : Int) == 0) = true := by simp [ga]
    have HZ : Hid (∀ w, Below W.heap.size W w → JnP n0 B most 260 E W (s ++ t) (.returned (.tuple #[.int .i64 (b : Nat), .nilIface])) w) := Lib.hid (fun w hw => by
      have h0 : s = [] := (HA.out.zero HWF.out).1 ga
      subst h0
      exact ⟨E, b, rfl, HS.out.below hw, HWF.out, Ext.refl _, by omega, HB'.out, hw.mono HN0.out, Kt.of hw⟩)
    clear ga
    go_enter Try.func41, Try.ntmps41
    go_wp2_with fail
    refine HWA.out.mono ?_; rintro e w1 ⟨rfl, b1⟩
    obtain ⟨wz, w2, hz, hs1, kw, bw, ⟨p0, p1, p2, p3, p4, p5⟩, q0, q1, q2, q3, q4, q5⟩ := newWt w1 u
    obtain ⟨gc, hgc⟩ : ∃ g, w1.heap.size = g := ⟨_, rfl⟩
    rw [hgc] at hs1 kw p0 p1 p2 p3 p4 p5 q0 q1 q2 q3 q4 q5
    have HB2 := Lib.hid (Below.after b1 bw); have KU := Lib.hid kw
    clear b1 kw bw
    go_wp2_with fail
    clear hz hs1 p0 p1 p2 p3 p4 p5 q0 q1 q2 q3 q4 q5 hgc
    refine (HWB.out w2 HB2.out).mono ?_; rintro e w3 ⟨rfl, b3⟩
    obtain ⟨wz, w4, hz, hs1, kw, bw, ⟨p0, p1, p2, p3, p4, p5⟩, q0, q1, q2, q3, q4, q5⟩ := newWt w3 v
    obtain ⟨gd, hgd⟩ : ∃ g, w3.heap.size = g := ⟨_, rfl⟩
    rw [hgd] at hs1 kw p0 p1 p2 p3 p4 p5 q0 q1 q2 q3 q4 q5
    have b4 := Below.after b3 bw
    have HB4 := Lib.hid (Below.after HB2.out b4); have KV := Lib.hid kw; have KU4 := Lib.hid (show WtC w4 gc u from below_block b4 KU.out)
    clear b3 b4 kw bw
    go_wp2_with fail
    clear hz hs1 p0 p1 p2 p3 p4 p5 q0 q1 q2 q3 q4 q5 hgd
    refine (HEA.out w4 HB4.out).mono ?_; rintro e w5 ⟨rfl, b5⟩
    have HB5 := Lib.hid (Below.after HB4.out b5); have KV5 := Lib.hid (show WtC w5 gd v from below_block b5 KV.out); have KU5 := Lib.hid (show WtC w5 gc u from below_block b5 KU4.out)
    clear b5
    go_wp2_with fail
    refine (HEB.out w5 HB5.out).mono ?_; rintro e w6 ⟨rfl, b6⟩
    have HB6 := Lib.hid (Below.after HB5.out b6)
    obtain ⟨x0, -, -, -, -, -⟩ := WtC.cells (show WtC w6 gd v from below_block b6 KV5.out)
    obtain ⟨y0, -, -, -, -, -⟩ := WtC.cells (show WtC w6 gc u from below_block b6 KU5.out)
    clear b6
    go_wp2_with fail
    refine (HAD.out w6).mono ?_; rintro e w ⟨rfl, h⟩; rw [h]; clear h w
    clear x0 y0
    go_wp2_with fail
    go_ret2
    exact HZ.out w6 HB6.out
  · have e1 : ((a : Int) == 0) = false := by simp; omega
    have e2 : ((b : Int) == 0) = true := by simp [gb]
    have HZ : Hid (∀ w, Below W.heap.size W w → JnP n0 B most 260 E W (s ++ t) (.returned (.tuple #[.int .i64 (a : Nat), .nilIface])) w) := Lib.hid (fun w hw => by
      have h0 : t = [] := (HB'.out.zero HWF.out).1 gb
      subst h0
      rw [List.append_nil]
      exact ⟨E, a, rfl, HS.out.below hw, HWF.out, Ext.refl _, by omega, HA.out, hw.mono HN0.out, Kt.of hw⟩)
    clear ga gb
    go_enter Try.func41, Try.ntmps41
    go_wp2_with fail
    refine HWA.out.mono ?_; rintro e w1 ⟨rfl, b1⟩
    obtain ⟨wz, w2, hz, hs1, kw, bw, ⟨p0, p1, p2, p3, p4, p5⟩, q0, q1, q2, q3, q4, q5⟩ := newWt w1 u
    obtain ⟨gc, hgc⟩ : ∃ g, w1.heap.size = g := ⟨_, rfl⟩
    rw [hgc] at hs1 kw p0 p1 p2 p3 p4 p5 q0 q1 q2 q3 q4 q5
    have HB2 := Lib.hid (Below.after b1 bw); have KU := Lib.hid kw
    clear b1 kw bw
    go_wp2_with fail
    clear hz hs1 p0 p1 p2 p3 p4 p5 q0 q1 q2 q3 q4 q5 hgc
    refine (HWB.out w2 HB2.out).mono ?_; rintro e w3 ⟨rfl, b3⟩
    obtain ⟨wz, w4, hz, hs1, kw, bw, ⟨p0, p1, p2, p3, p4, p5⟩, q0, q1, q2, q3, q4, q5⟩ := newWt w3 v
    obtain ⟨gd, hgd⟩ : ∃ g, w3.heap.size = g := ⟨_, rfl⟩
    rw [hgd] at hs1 kw p0 p1 p2 p3 p4 p5 q0 q1 q2 q3 q4 q5
    have b4 := Below.after b3 bw
    have HB4 := Lib.hid (Below.after HB2.out b4); have KV := Lib.hid kw; have KU4 := Lib.hid (show WtC w4 gc u from below_block b4 KU.out)
    clear b3 b4 kw bw
    go_wp2_with fail
    clear hz hs1 p0 p1 p2 p3 p4 p5 q0 q1 q2 q3 q4 q5 hgd
    refine (HEA.out w4 HB4.out).mono ?_; rintro e w5 ⟨rfl, b5⟩
    have HB5 := Lib.hid (Below.after HB4.out b5); have KV5 := Lib.hid (show WtC w5 gd v from below_block b5 KV.out); have KU5 := Lib.hid (show WtC w5 gc u from below_block b5 KU4.out)
    clear b5
    go_wp2_with fail
    refine (HEB.out w5 HB5.out).mono ?_; rintro e w6 ⟨rfl, b6⟩
    have HB6 := Lib.hid (Below.after HB5.out b6)
    obtain ⟨x0, -, -, -, -, -⟩ := WtC.cells (show WtC w6 gd v from below_block b6 KV5.out)
    obtain ⟨y0, -, -, -, -, -⟩ := WtC.cells (show WtC w6 gc u from below_block b6 KU5.out)
    clear b6
    go_wp2_with fail
    refine (HAD.out w6).mono ?_; rintro e w ⟨rfl, h⟩; rw [h]; clear h w
    clear x0 y0
    go_wp2_with fail
    go_ret2
    exact HZ.out w6 HB6.out
  · have e1 : ((a : Int) == 0) = false := by simp; omega
    have e2 : ((b : Int) == 0) = false := by simp; omega
    have HJ : Hid (∀ w, Below W.heap.size W w → Calls Try.prog 84 #[.pointer (some ⟨B, 0, none⟩), .int .i64 a, .int .i64 b] w (JnP n0 B most 260 E w (s ++ t))) := Lib.hid (fun w hw => by
      have ha := HA.out.bal (by omega)
      have hb := HB'.out.bal (by omega)
      have d1 := ha.deep HWF.out
      have d2 := hb.deep HWF.out
      have hnn := HNN.out
      refine (avlj_any _ rfl (HS.out.below hw) HWF.out ha hb hnn.1 (by unfold joK; omega) (by unfold joK; omega)).mono ?_
      intro e w' hj
      exact hj.jn.after (k1 := 0) rfl (Ext.refl _) (by omega) (by unfold joK; omega) (Below.refl _ _) (Kt.of (Below.refl _ _)))
    clear ga gb
    go_enter Try.func41, Try.ntmps41
    go_wp2_with fail
    refine HWA.out.mono ?_; rintro e w1 ⟨rfl, b1⟩
    obtain ⟨wz, w2, hz, hs1, kw, bw, ⟨p0, p1, p2, p3, p4, p5⟩, q0, q1, q2, q3, q4, q5⟩ := newWt w1 u
    obtain ⟨gc, hgc⟩ : ∃ g, w1.heap.size = g := ⟨_, rfl⟩
    rw [hgc] at hs1 kw p0 p1 p2 p3 p4 p5 q0 q1 q2 q3 q4 q5
    have HB2 := Lib.hid (Below.after b1 bw); have KU := Lib.hid kw
    clear b1 kw bw
    go_wp2_with fail
    clear hz hs1 p0 p1 p2 p3 p4 p5 q0 q1 q2 q3 q4 q5 hgc
    refine (HWB.out w2 HB2.out).mono ?_; rintro e w3 ⟨rfl, b3⟩
    obtain ⟨wz, w4, hz, hs1, kw, bw, ⟨p0, p1, p2, p3, p4, p5⟩, q0, q1, q2, q3, q4, q5⟩ := newWt w3 v
    obtain ⟨gd, hgd⟩ : ∃ g, w3.heap.size = g := ⟨_, rfl⟩
    rw [hgd] at hs1 kw p0 p1 p2 p3 p4 p5 q0 q1 q2 q3 q4 q5
    have b4 := Below.after b3 bw
    have HB4 := Lib.hid (Below.after HB2.out b4); have KV := Lib.hid kw; have KU4 := Lib.hid (show WtC w4 gc u from below_block b4 KU.out)
    clear b3 b4 kw bw
    go_wp2_with fail
    clear hz hs1 p0 p1 p2 p3 p4 p5 q0 q1 q2 q3 q4 q5 hgd
    refine (HEA.out w4 HB4.out).mono ?_; rintro e w5 ⟨rfl, b5⟩
    have HB5 := Lib.hid (Below.after HB4.out b5); have KV5 := Lib.hid (show WtC w5 gd v from below_block b5 KV.out); have KU5 := Lib.hid (show WtC w5 gc u from below_block b5 KU4.out)
    clear b5
    go_wp2_with fail
    refine (HEB.out w5 HB5.out).mono ?_; rintro e w6 ⟨rfl, b6⟩
    have HB6 := Lib.hid (Below.after HB5.out b6)
    obtain ⟨x0, -, -, -, -, -⟩ := WtC.cells (show WtC w6 gd v from below_block b6 KV5.out)
    obtain ⟨y0, -, -, -, -, -⟩ := WtC.cells (show WtC w6 gc u from below_block b6 KU5.out)
    clear b6
    go_wp2_with fail
    refine (HAD.out w6).mono ?_; rintro e w ⟨rfl, h⟩; rw [h]; clear h w
    clear x0 y0
    go_wp2_with fail
    refine (HJ.out w6 HB6.out).mono ?_
    intro e w7 hj
    obtain ⟨i2, rfl⟩ := hj.ret
    have HZ := Lib.hid (hj.read HB6.out HN0.out)
    clear hj
    go_wp2_with fail
    go_ret2
    exact HZ.out
end M
end Go.Proofs.Ytpjcfepngjpfbaa
namespace Go.Proofs.Ytpjcfepngjpfbaa
open Go.RowKit Go.Lib
theorem heap_alloc_lt (W : World) (o : Obj) : W.heap.size < (W.alloc o).heap.size := by rw [World.size_alloc]; omega
namespace M
/-- A slice's address, length and capacity. -/
abbrev Slc := Option Addr × Nat × Nat
abbrev slcV (u : Slc) : Value := .slice u.1 u.2.1 u.2.2
def encS (u : Slc) : List Value := [slcV u]
theorem encS_len (u : Slc) : (encS u).length = 1 := rfl
theorem encS_one (u : Slc) : ∀ x ∈ encS u, x.oneCell' = true := by simp [encS, slcV, Value.oneCell']
def encI (n : Nat) : List Value := [.int .i64 n]
theorem encI_len (n : Nat) : (encI n).length = 1 := rfl
theorem encI_one (n : Nat) : ∀ x ∈ encI n, x.oneCell' = true := by simp [encI, Value.oneCell']
abbrev IdW (B : Nat) (W : World) (v : Value) (l : List Nat) : Prop := SlA B W 31 1 encI v l
abbrev ItW (B : Nat) (W : World) (v : Value) (l : List Nat) : Prop := SlA B W 3 1 encI v l
abbrev SlW (B : Nat) (W : World) (v : Value) (l : List Slc) : Prop := SlA B W 32 1 encS v l
theorem elemId : Elem Try.prog 24 31 1 8 := elem_of Try.underlying24 (z := .int .i64 0) (by kernel_rfl) rfl (by decide) (by decide)
theorem elemIt : Elem Try.prog 25 3 1 8 := elem_of Try.underlying25 (z := .int .i64 0) (by kernel_rfl) rfl (by decide) (by decide)
theorem elemSl : Elem Try.prog 26 32 1 24 := elem_of Try.underlying26 (z := .slice none 0 0) (by kernel_rfl) rfl (by decide) (by decide)
/-- An element of such a list. -/
theorem SlA.one {α : Type} {B : Nat} {W : World} {e : TypeId} {enc : α → List Value} (he : ∀ a, (enc a).length = 1) {v : Value} {l : List α} (h : SlA B W e 1 enc v l) {i : Nat} (hi : i < l.length) :
    ∃ g cap, v = .slice (some ⟨g, 0, none⟩) l.length cap ∧ l.length ≤ cap ∧ cap ≤ maxLen ∧ ∀ (W' : World), SlA B W' e 1 enc v l → ∀ i (hi : i < l.length), W'.cell? ⟨g, i, none⟩ = (enc l[i])[0]? := by
  rcases h.shape with ⟨-, rfl⟩ | ⟨g, cap, rfl, h1, h2⟩
  · simp at hi
  · refine ⟨g, cap, rfl, h1, h2, fun W' h' i hi => ?_⟩
    have := SlA.cell he h' hi (j := 0) (by omega)
    rw [Nat.mul_one, Nat.add_zero] at this
    rw [this, List.getElem?_eq_getElem (by rw [he]; omega)]
/-- The block of a Made. -/
def McC (W : World) (g B : Nat) (iv lv tv : Value) : Prop := W.heap[g]? = some (.cells #[.pointer (some ⟨B, 0, none⟩), iv, lv, tv] 28 (0, 0))
section
variable {W : World} {g B : Nat} {iv lv tv : Value}
theorem McC.cells (h : McC W g B iv lv tv) : W.cell? ⟨g, 0, none⟩ = some (.pointer (some ⟨B, 0, none⟩)) ∧ W.cell? ⟨g, 1, none⟩ = some iv ∧ W.cell? ⟨g, 2, none⟩ = some lv ∧ W.cell? ⟨g, 3, none⟩ = some tv := by
  unfold McC at h
  simp [World.cell?, h]
theorem McC.free (h : McC W g B iv lv tv) (i : Nat) : W.frozen? ⟨g, i, none⟩ = false := by
  unfold McC at h
  simp [World.frozen?, h]
theorem McC.set (h : McC W g B iv lv tv) (a b c : Value) : McC (((W.setCell ⟨g, 1, none⟩ a).setCell ⟨g, 2, none⟩ b).setCell ⟨g, 3, none⟩ c) g B a b c := by
  unfold McC at h ⊢
  exact heap_set0 _ (heap_set0 _ (heap_set0 _ h))
theorem McC.keep {C : World} (h : McC W g B iv lv tv) (hk : KeepT 28 W C) : McC C g B iv lv tv := hk _ _ _ h
end
/-- The lengths of texts. -/
def lnF (E : List En) (ids : List Nat) : List Nat := ids.map fun i => (M.txt E i).length
theorem lnF_len (E : List En) (ids : List Nat) : (lnF E ids).length = ids.length := by simp [lnF]
theorem lnF_snoc (E : List En) (ids : List Nat) (i : Nat) : lnF E (ids ++ [i]) = lnF E ids ++ [(M.txt E i).length] := by simp [lnF]
theorem lnF_ext {E E' : List En} (hx : Ext E E') {ids : List Nat} (h : ∀ i ∈ ids, i ≤ E.length) : lnF E' ids = lnF E ids := by
  unfold lnF
  exact List.map_congr_left fun i hi => by rw [hx.txt (h i hi)]
theorem lnF_get {E : List En} {ids : List Nat} {k : Nat} (h : k < (lnF E ids).length) : (lnF E ids)[k] = (M.txt E (ids[k]'(by rw [lnF_len] at h; exact h))).length := by simp [lnF]
/-- What a Made's lists are. -/
structure MdOk (n0 : Nat) (W : World) (E : List En) (ids : List Nat) (T : List Slc) : Prop where
  bal : ∀ i ∈ ids, 0 < i ∧ Bal0 E i (M.txt E i)
  len : T.length = ids.length
  txt : ∀ (k : Nat) (h : k < ids.length) (h2 : k < T.length), (M.txt E ids[k]).length ≤ 4096 → Bys n0 W (slcV T[k]) (M.txt E ids[k])
theorem MdOk.ext {n0 : Nat} {W : World} {E E' : List En} {ids : List Nat} {T : List Slc} (h : MdOk n0 W E ids T) (hx : Ext E E') : MdOk n0 W E' ids T := by
  refine ⟨fun i hi => ?_, h.len, fun k h1 h2 h3 => ?_⟩
  · obtain ⟨a, b⟩ := h.bal i hi
    rw [hx.txt b.le]
    exact ⟨a, b.ext hx⟩
  · obtain ⟨a, b⟩ := h.bal _ (List.getElem_mem h1)
    rw [hx.txt b.le] at h3 ⊢
    exact h.txt k h1 h2 h3
theorem MdOk.keep {n0 : Nat} {W C : World} {E : List En} {ids : List Nat} {T : List Slc} (h : MdOk n0 W E ids T) (hk : KeepT 5 W C) : MdOk n0 C E ids T := ⟨h.bal, h.len, fun k h1 h2 h3 => SlA.keep (h.txt k h1 h2 h3) hk⟩
theorem MdOk.snoc {n0 : Nat} {W : World} {E : List En} {ids : List Nat} {T : List Slc} (h : MdOk n0 W E ids T) {i : Nat} {u : Slc} (h0 : 0 < i) (hb : Bal0 E i (M.txt E i)) (ht : (M.txt E i).length ≤ 4096 → Bys n0 W (slcV u) (M.txt E i)) : MdOk n0 W E (ids ++ [i]) (T ++ [u]) := by
  refine ⟨fun j hj => ?_, by simp [h.len], fun k h1 h2 h3 => ?_⟩
  · rcases List.mem_append.1 hj with g | g
    · exact h.bal j g
    · rw [List.mem_singleton.1 g]; exact ⟨h0, hb⟩
  · by_cases hk : k < ids.length
    · simp only [List.getElem_append_left hk, List.getElem_append_left (show k < T.length by rw [h.len]; exact hk)] at h3 ⊢
      exact h.txt k hk _ h3
    · have e : k = ids.length := by simp at h1; omega
      have e2 : (ids ++ [i])[k] = i := by rw [List.getElem_append_right (by omega)]; simp
      have e3 : (T ++ [u])[k] = u := by rw [List.getElem_append_right (by rw [h.len]; omega)]; simp
      rw [e2] at h3 ⊢
      rw [e3]
      exact ht h3
theorem MdOk.nil (n0 : Nat) (W : World) (E : List En) : MdOk n0 W E [] [] := ⟨fun i h => (by cases h), rfl, fun k h => by cases h⟩
/-- A Made, in its block. -/
def MdAt (n0 : Nat) (W : World) (g B : Nat) (E : List En) (ids : List Nat) (T : List Slc) : Prop := ∃ iv lv tv, McC W g B iv lv tv ∧ IdW n0 W iv ids ∧ ItW n0 W lv (lnF E ids) ∧ SlW n0 W tv T ∧ MdOk n0 W E ids T
/-- What turns while a step is done. -/
abbrev MdT : List TypeId := [31, 3, 32]
/-- The lists as they were, whatever has been appended. -/
def SMd (n0 : Nat) (iv lv tv : Value) (ids ls : List Nat) (T : List Slc) (wq w : World) : Prop := KpL MdT n0 wq w ∧ IdW n0 w iv ids ∧ ItW n0 w lv ls ∧ SlW n0 w tv T ∧ n0 ≤ w.heap.size
section
variable {n0 : Nat} {iv lv tv : Value} {ids ls : List Nat} {T : List Slc} {wq w w' : World}
theorem SMd.below (h : SMd n0 iv lv tv ids ls T wq w) (hb : Below w.heap.size w w') : SMd n0 iv lv tv ids ls T wq w' :=
  ⟨h.1.trans (KpL.of hb h.2.2.2.2), h.2.1.below hb, h.2.2.1.below hb, h.2.2.2.1.below hb, Nat.le_trans h.2.2.2.2 hb.size⟩
theorem SMd.own1 (h : SMd n0 iv lv tv ids ls T wq w) (hg : w.grownBy w' iv.ownBlock) (hi : IdW n0 w' iv ids) : SMd n0 iv lv tv ids ls T wq w' := by
  have hk := KpL.own (ts := MdT) h.2.1 hg h.2.2.2.2 (by simp)
  exact ⟨h.1.trans hk, hi, SlA.keep h.2.2.1 (keep_own h.2.1 hg (by decide)), SlA.keep h.2.2.2.1 (keep_own h.2.1 hg (by decide)), Nat.le_trans h.2.2.2.2 hk.below.size⟩
theorem SMd.own2 (h : SMd n0 iv lv tv ids ls T wq w) (hg : w.grownBy w' lv.ownBlock) (hi : ItW n0 w' lv ls) : SMd n0 iv lv tv ids ls T wq w' := by
  have hk := KpL.own (ts := MdT) h.2.2.1 hg h.2.2.2.2 (by simp)
  exact ⟨h.1.trans hk, SlA.keep h.2.1 (keep_own h.2.2.1 hg (by decide)), hi, SlA.keep h.2.2.2.1 (keep_own h.2.2.1 hg (by decide)), Nat.le_trans h.2.2.2.2 hk.below.size⟩
theorem SMd.own3 (h : SMd n0 iv lv tv ids ls T wq w) (hg : w.grownBy w' tv.ownBlock) (hi : SlW n0 w' tv T) : SMd n0 iv lv tv ids ls T wq w' := by
  have hk := KpL.own (ts := MdT) h.2.2.2.1 hg h.2.2.2.2 (by simp)
  exact ⟨h.1.trans hk, SlA.keep h.2.1 (keep_own h.2.2.2.1 hg (by decide)), SlA.keep h.2.2.1 (keep_own h.2.2.2.1 hg (by decide)), hi, Nat.le_trans h.2.2.2.2 hk.below.size⟩
end
/-- A step: a letter, or the join of two earlier texts. -/
structure Stp where
  join : Bool
  letter : Nat
  a : Nat
  b : Nat
def StpAt (W : World) (p : Addr) (s : Stp) : Prop := W.cell? p = some (.bool s.join) ∧ W.cell? ⟨p.block, p.off + 1, none⟩ = some (.int .u8 s.letter) ∧ W.cell? ⟨p.block, p.off + 2, none⟩ = some (.int .u8 s.a) ∧ W.cell? ⟨p.block, p.off + 3, none⟩ = some (.int .u8 s.b)
theorem adb (b : Addr) (k : Nat) : (b.add k).block = b.block := by unfold Addr.add; split <;> rfl
theorem StpAt.keep {A C : World} {b : Addr} {s : Stp} (h : StpAt A b s) (hb : C.heap[b.block]? = A.heap[b.block]?) : StpAt C b s := by
  obtain ⟨h1, h2, h3, h4⟩ := h
  refine ⟨?_, ?_, ?_, ?_⟩
  · unfold World.cell? at *; rw [hb]; exact h1
  · unfold World.cell? at *; dsimp only at *; rw [hb]; exact h2
  · unfold World.cell? at *; dsimp only at *; rw [hb]; exact h3
  · unfold World.cell? at *; dsimp only at *; rw [hb]; exact h4
/-- The steps of an argument, wherever they lie. -/
def RowStp (W : World) (v : Value) (L : List Stp) : Prop :=
  ∃ a cap, v = .slice a L.length cap ∧ L.length ≤ cap ∧ cap ≤ maxLen ∧ (∀ s ∈ L, s.letter < 256 ∧ s.a < 256 ∧ s.b < 256) ∧ (∀ (i : Nat) (h : i < L.length), ∃ b, a = some b ∧ b.block < W.heap.size ∧ StpAt W (b.add (i * 4)) L[i])
theorem RowStp.under {A C : World} {v : Value} {L : List Stp} {n : Nat} (h : RowStp A v L) (hb : Below n A C) (hn : A.heap.size ≤ n) : RowStp C v L := by
  obtain ⟨a, cap, rfl, h1, h2, h3, h⟩ := h
  exact ⟨a, cap, rfl, h1, h2, h3, fun i hi => (h i hi).imp fun b hh => ⟨hh.1, Nat.lt_of_lt_of_le hh.2.1 hb.size, hh.2.2.keep (by rw [adb]; exact hb.block _ (Nat.lt_of_lt_of_le hh.2.1 hn))⟩⟩
/-- A box into which a step is laid. -/
def SpB (W : World) (g : Nat) (s : Stp) : Prop := W.heap[g]? = some (.cells #[.bool s.join, .int .u8 s.letter, .int .u8 s.a, .int .u8 s.b] 95 (0, 0))
theorem SpB.cells {W : World} {g : Nat} {s : Stp} (h : SpB W g s) : W.cell? ⟨g, 0, none⟩ = some (.bool s.join) ∧ W.cell? ⟨g, 1, none⟩ = some (.int .u8 s.letter) ∧ W.cell? ⟨g, 2, none⟩ = some (.int .u8 s.a) ∧ W.cell? ⟨g, 3, none⟩ = some (.int .u8 s.b) := by
  unfold SpB at h
  simp [World.cell?, h]
theorem SpB.free {W : World} {g : Nat} {s : Stp} (h : SpB W g s) (i : Nat) : W.frozen? ⟨g, i, none⟩ = false := by
  unfold SpB at h
  simp [World.frozen?, h]
theorem SpB.set {W : World} {g : Nat} {s0 : Stp} (h : SpB W g s0) (s : Stp) : SpB ((((W.setCell ⟨g, 0, none⟩ (.bool s.join)).setCell ⟨g, 1, none⟩ (.int .u8 s.letter)).setCell ⟨g, 2, none⟩ (.int .u8 s.a)).setCell ⟨g, 3, none⟩ (.int .u8 s.b)) g s := by
  unfold SpB at h ⊢
  exact heap_set0 _ (heap_set0 _ (heap_set0 _ (heap_set0 _ h)))
/-- What is known of the operations of a step, by their role. -/
def PPm (n0 : Nat) (iv lv tv : Value) (ids : List Nat) (id : Nat) (ls : List Nat) (ln : Nat) (T : List Slc) (bt : Nat) (Z : Slc → World → Prop) (p : Value) (r : Nat) (v : Value) (w : World) : Prop := match r with
  | 0 => v = iv
  | 1 => v = lv
  | 2 => v = tv
  | 3 => ∃ g, v = .slice (some ⟨g, 0, none⟩) 1 1 ∧ IdW n0 w v [id]
  | 4 => IdW n0 w v (ids ++ [id])
  | 5 => ∃ g, v = .slice (some ⟨g, 0, none⟩) 1 1 ∧ ItW n0 w v [ln]
  | 6 => ItW n0 w v (ls ++ [ln])
  | 7 => ∃ g, v = .slice (some ⟨g, 0, none⟩) 1 1 ∧ Bys n0 w v [bt]
  | 8 => ∃ g u, v = .slice (some ⟨g, 0, none⟩) 1 1 ∧ SlW n0 w v [u] ∧ Z u w
  | 9 => ∃ u, SlW n0 w v (T ++ [u]) ∧ Z u w
  | 10 => v = p
  | _ => True
def tyM (r : Nat) : List TypeId := match r with
  | 3 => [31]
  | 4 => [31]
  | 5 => [3]
  | 6 => [3]
  | 7 => [5]
  | 8 => [32, 5]
  | 9 => [32, 5]
  | _ => []
def FRm (r : Nat) (w w' : World) : Prop := match r with
  | 4 => ∀ t, t ≠ 31 → KeepT t w w'
  | 6 => ∀ t, t ≠ 3 → KeepT t w w'
  | 9 => ∀ t, t ≠ 32 → KeepT t w w'
  | _ => Below w.heap.size w w'
theorem PPm.keep {n0 : Nat} {iv lv tv : Value} {ids : List Nat} {id : Nat} {ls : List Nat} {ln : Nat} {T : List Slc} {bt : Nat} {Z : Slc → World → Prop} {p : Value} (hZ : ∀ u w w', Z u w → KeepT 5 w w' → Z u w') {r : Nat} {v : Value} {w w' : World} (h : PPm n0 iv lv tv ids id ls ln T bt Z p r v w) (hk : ∀ t, t ∈ tyM r → KeepT t w w') : PPm n0 iv lv tv ids id ls ln T bt Z p r v w' := by
  match r, h, hk with
  | 0, h, _ => exact h
  | 1, h, _ => exact h
  | 2, h, _ => exact h
  | 3, h, hk =>
    obtain ⟨g, e, k⟩ := h
    exact ⟨g, e, SlA.keep k (hk _ (by simp [tyM]))⟩
  | 4, h, hk => exact SlA.keep (show IdW n0 w v (ids ++ [id]) from h) (hk _ (by simp [tyM]))
  | 5, h, hk =>
    obtain ⟨g, e, k⟩ := h
    exact ⟨g, e, SlA.keep k (hk _ (by simp [tyM]))⟩
  | 6, h, hk => exact SlA.keep (show ItW n0 w v (ls ++ [ln]) from h) (hk _ (by simp [tyM]))
  | 7, h, hk =>
    obtain ⟨g, e, k⟩ := h
    exact ⟨g, e, SlA.keep k (hk _ (by simp [tyM]))⟩
  | 8, h, hk =>
    obtain ⟨g, u, e, k, z⟩ := h
    exact ⟨g, u, e, SlA.keep k (hk _ (by simp [tyM])), hZ _ _ _ z (hk _ (by simp [tyM]))⟩
  | 9, h, hk =>
    obtain ⟨u, k, z⟩ := h
    exact ⟨u, SlA.keep k (hk _ (by simp [tyM])), hZ _ _ _ z (hk _ (by simp [tyM]))⟩
  | 10, h, _ => exact h
  | n + 11, h, _ => exact trivial
/-- A Made that holds nothing. -/
def MzC (W : World) (g : Nat) : Prop := W.heap[g]? = some (.cells #[.pointer none, .slice none 0 0, .slice none 0 0, .slice none 0 0] 28 (0, 0))
theorem MzC.cells {W : World} {g : Nat} (h : MzC W g) : (W.cell? ⟨g, 0, none⟩ = some (.pointer none) ∧ W.cell? ⟨g, 1, none⟩ = some (.slice none 0 0) ∧ W.cell? ⟨g, 2, none⟩ = some (.slice none 0 0) ∧ W.cell? ⟨g, 3, none⟩ = some (.slice none 0 0)) ∧ W.frozen? ⟨g, 0, none⟩ = false ∧ W.frozen? ⟨g, 1, none⟩ = false ∧ W.frozen? ⟨g, 2, none⟩ = false ∧ W.frozen? ⟨g, 3, none⟩ = false := by
  unfold MzC at h
  simp [World.cell?, World.frozen?, h]
/-- The text of a letter, in a block of its own. -/
abbrev ZA (n0 b : Nat) (u : Slc) (w : World) : Prop := ∃ g : Nat, u = (some ⟨g, 0, none⟩, 1, 1) ∧ Bys n0 w (slcV u) [b]
/-- A text that is known if it is short. -/
abbrev ZB (n0 : Nat) (x : Slc) (l : List Nat) (u : Slc) (w : World) : Prop := u = x ∧ (l.length ≤ 4096 → Bys n0 w (slcV u) l)
/-- What Build returns. -/
def B14 (n0 : Nat) (W : World) (e : Ending) (w' : World) : Prop := ∃ (B : Nat) (E : List En) (ids : List Nat) (T : List Slc) (iv lv tv : Value), e = .returned (.tuple #[.agg #[.pointer (some ⟨B, 0, none⟩), iv, lv, tv], .bool true]) ∧ StAt n0 w' B 1048576 E ∧ WfD E ∧ E.length ≤ 23400 ∧ ids.length ≤ 90 ∧ IdW n0 w' iv ids ∧ ItW n0 w' lv (lnF E ids) ∧ SlW n0 w' tv T ∧ MdOk n0 w' E ids T ∧ Below n0 W w'
theorem cell_on3 {A C : World} {a : Addr} {v : Value} (h : A.cell? a = some v) (hb : Below A.heap.size A C) : C.cell? a = some v := by
  have h2 := h
  unfold World.cell? at h ⊢
  cases hh : A.heap[a.block]? with
  | none => rw [hh] at h; cases h
  | some o =>
    rw [hb.block a.block (Array.getElem?_eq_some_iff.1 hh).1]
    exact h
theorem StAt.mono' {n0 n1 B most : Nat} {W : World} {E : List En} (h : StAt n1 W B most E) (hn : n0 ≤ n1) : StAt n0 W B most E := by
  obtain ⟨lv, mb, h1, h2, h3, h4, h5⟩ := h
  exact ⟨lv, mb, h1, SlA.mono h2 hn, h3, Nat.le_trans hn h4, Nat.le_trans hn h5⟩
/-- A box into which an empty Made is laid. -/
theorem newMc (w : World) (B : Nat) : ∃ wz w2, w.alloc (.cells #[.pointer none, .slice none 0 0, .slice none 0 0, .slice none 0 0] 28) = wz ∧
    (((wz.setCell ⟨w.heap.size, 0, none⟩ (.pointer (some ⟨B, 0, none⟩))).setCell ⟨w.heap.size, 1, none⟩ (.slice none 0 0)).setCell ⟨w.heap.size, 2, none⟩ (.slice none 0 0)).setCell ⟨w.heap.size, 3, none⟩ (.slice none 0 0) = w2 ∧
    McC w2 w.heap.size B (.slice none 0 0) (.slice none 0 0) (.slice none 0 0) ∧ Below w.heap.size w w2 ∧ MzC wz w.heap.size := by
  have k0 : MzC (w.alloc (.cells #[.pointer none, .slice none 0 0, .slice none 0 0, .slice none 0 0] 28)) w.heap.size := heap_new' _ _
  have b0 : Below w.heap.size w (w.alloc (.cells #[.pointer none, .slice none 0 0, .slice none 0 0, .slice none 0 0] 28)) := (Below.refl _ _).alloc (Nat.le_refl _) _
  refine ⟨_, _, rfl, rfl, ?_, (((b0.setCell (p := ⟨w.heap.size, 0, none⟩) (Nat.le_refl _) _).setCell (p := ⟨w.heap.size, 1, none⟩) (Nat.le_refl _) _).setCell (p := ⟨w.heap.size, 2, none⟩) (Nat.le_refl _) _).setCell (p := ⟨w.heap.size, 3, none⟩) (Nat.le_refl _) _, k0⟩
  unfold MzC at k0
  exact heap_set0 _ (heap_set0 _ (heap_set0 _ (heap_set0 _ k0)))
end M
end Go.Proofs.Ytpjcfepngjpfbaa
namespace Go.Proofs.Ytpjcfepngjpfbaa
open Go.RowKit Go.Lib
namespace M
attribute [local go_sem] Oper.semAt_some
/-- What Last returns. -/
def L14 (n0 : Nat) (W : World) (E : List En) (e : Ending) (w' : World) : Prop := ∃ (id : Nat) (u : Slc), e = .returned (.tuple #[.int .i64 id, .int .i64 (txt E id).length, slcV u, .bool (decide ((txt E id).length ≤ 4096))]) ∧ id ≤ E.length ∧ Bal0 E id (txt E id) ∧ (u.2.1 = (txt E id).length ∨ 4096 < (txt E id).length) ∧ ((txt E id).length ≤ 4096 → Bys n0 w' (slcV u) (txt E id)) ∧ Below W.heap.size W w'
set_option maxRecDepth 100000 in
set_option maxHeartbeats 4000000 in
theorem last_any {n0 B : Nat} {W : World} {E : List En} {ids : List Nat} {T : List Slc} {iv lv tv : Value} (hI : IdW n0 W iv ids) (hT : ItW n0 W lv (lnF E ids)) (hS : SlW n0 W tv T) (hO : MdOk n0 W E ids T) (hn : ids.length ≤ 90) :
    Calls Try.prog 13 #[.agg #[.pointer (some ⟨B, 0, none⟩), iv, lv, tv]] W (L14 n0 W E) := by
  have HF : ∀ f, Fence.wide.fn f := fun _ => trivial
  obtain ⟨W1, hW1⟩ : ∃ w, W.alloc (.cells #[.pointer (some ⟨B, 0, none⟩), iv, lv, tv] 28) = w := ⟨_, rfl⟩
  have k1 : McC W1 W.heap.size B iv lv tv := by rw [← hW1]; exact heap_new' _ _
  have b1 : Below W.heap.size W W1 := by rw [← hW1]; exact (Below.refl _ _).alloc (Nat.le_refl _) _
  obtain ⟨c0, c1, c2, c3⟩ := k1.cells
  have HK1 := Lib.hid k1; have HB1 := Lib.hid b1
  have hI1 := SlA.below hI b1; have hT1 := SlA.below hT b1; have hS1 := SlA.below hS b1
  obtain ⟨n, hnn⟩ : ∃ n, ids.length = n := ⟨_, rfl⟩
  by_cases h0 : n = 0
  · subst h0
    obtain rfl : ids = [] := List.length_eq_zero_iff.1 hnn
    obtain ⟨va, vc, rfl⟩ := hI.len
    simp only [List.length_nil] at hW1 c1
    clear hI hT hS hO hI1 hT1 hS1 k1 b1 hnn hn
    go_enter Try.func13, Try.ntmps13
    go_wp2_with fail
    refine bodyPost_ret (v := .tuple #[.int .i64 0, .int .i64 0, .slice none 0 0, .bool true]) (by simp [results, Try.results13, go_sem]) rfl ?_
    refine ⟨0, (none, 0, 0), by rw [txt_zero]; rfl, Nat.zero_le _, ?_, .inl (by rw [txt_zero]; rfl), fun _ => by rw [txt_zero]; exact SlA.nil _ _ _ _ _, by first | exact HB1.out | (rw [hW1]; exact HB1.out)⟩
    rw [txt_zero]
    exact ⟨Nat.zero_le _, txt_zero E, rfl⟩
  · obtain ⟨k, hk⟩ : ∃ k, n = k + 1 := ⟨n - 1, by omega⟩
    have hki : k < ids.length := by omega
    obtain ⟨gi, ci, hiv, hi1, hi2, hi3⟩ := SlA.one encI_len hI1 hki
    obtain ⟨gl, cl, hlv, hl1, hl2, hl3⟩ := SlA.one encI_len hT1 (i := k) (by rw [lnF_len]; exact hki)
    obtain ⟨gt, ct, htv, ht1, ht2, ht3⟩ := SlA.one encS_len hS1 (i := k) (by rw [hO.len]; exact hki)
    rw [hnn] at hiv
    rw [lnF_len, hnn] at hlv
    rw [hO.len, hnn] at htv
    obtain ⟨id, hid⟩ : ∃ y, ids[k] = y := ⟨_, rfl⟩
    obtain ⟨u, hu⟩ : ∃ y, T[k]'(by rw [hO.len]; exact hki) = y := ⟨_, rfl⟩
    obtain ⟨ln, hln⟩ : ∃ y, (txt E id).length = y := ⟨_, rfl⟩
    have d1 : ∀ w, Below W1.heap.size W1 w → w.cell? ⟨gi, k, none⟩ = some (.int .i64 id) := fun w hw => by
      rw [hi3 w (SlA.below hI1 hw) k hki, hid]; rfl
    have d2 : ∀ w, Below W1.heap.size W1 w → w.cell? ⟨gl, k, none⟩ = some (.int .i64 ln) := fun w hw => by
      rw [hl3 w (SlA.below hT1 hw) k (by rw [lnF_len]; exact hki), lnF_get, hid, hln]; rfl
    have d3 : ∀ w, Below W1.heap.size W1 w → w.cell? ⟨gt, k, none⟩ = some (slcV u) := fun w hw => by
      rw [ht3 w (SlA.below hS1 hw) k (by rw [hO.len]; exact hki), hu]; rfl
    have m1 : ∀ w, Below W1.heap.size W1 w → w.cell? ⟨W.heap.size, 1, none⟩ = some iv := fun w hw => (McC.cells (below_block hw HK1.out)).2.1
    have m2 : ∀ w, Below W1.heap.size W1 w → w.cell? ⟨W.heap.size, 2, none⟩ = some lv := fun w hw => (McC.cells (below_block hw HK1.out)).2.2.1
    have m3 : ∀ w, Below W1.heap.size W1 w → w.cell? ⟨W.heap.size, 3, none⟩ = some tv := fun w hw => (McC.cells (below_block hw HK1.out)).2.2.2
    have hkw : IntKind.i64.wrap ((n : Int) - 1) = (k : Int) := by rw [IntKind.wrap_i64]; omega
    have hkb : k ≤ 90 := by omega
    have hkn : (k : Int) < (n : Int) := by omega
    have hk0 : (0 : Int) ≤ (k : Int) := by omega
    have hdd : decide ((ln : Int) ≤ 4096) = decide (ln ≤ 4096) := by by_cases h : ln ≤ 4096 <;> simp [h] <;> omega
    have HFIN : Hid (id ≤ E.length ∧ Bal0 E id (txt E id) ∧ (ln ≤ 4096 → Bys n0 W (slcV u) (txt E id)) ∧ (txt E id).length = ln) := Lib.hid (by
      have hb := hO.bal id (by rw [← hid]; exact List.getElem_mem hki)
      refine ⟨hb.2.le, hb.2, fun h => ?_, hln⟩
      have := hO.txt k hki (by rw [hO.len]; exact hki) (by rw [hid, hln]; exact h)
      rw [hid, hu] at this
      exact this)
    obtain ⟨ua, ul, uc⟩ := u
    subst hiv; subst hlv; subst htv
    clear hI hT hS hO hI1 hT1 hS1 k1 b1 hnn hn hki hi1 hi2 hi3 hl1 hl2 hl3 ht1 ht2 ht3 hid hu hln
    have hnz : ¬ n = 0 := h0
    have hnzb : ((n : Int) == 0) = false := by simp; omega
    have hkl : k < n := by omega
    have hnb : n ≤ 91 := by omega
    clear h0 hk
    go_enter Try.func13, Try.ntmps13
    go_wp2_with fail
    refine wp_region_anyH (Below W1.heap.size W1) (by kernel_rfl) ?_
    have S0 : Below W1.heap.size W1 W1.drew := (Below.refl _ _).drew
    refine AnyH.take (i := 0) (d := some 15) (v := ?_) (by kernel_rfl) rfl rfl HF (fun _ _ _ h => h) (.inl ⟨by rfl, ?_⟩) (by first | assumption | rfl) ?_
    rotate_left
    · intro w hS; try subst hS
      go_simp; try with_reducible rfl
    try simp only [Act.put, List.setIfInBounds_toArray, List.set_cons_zero, List.set_cons_succ]
    refine AnyH.take (i := 1) (d := some 16) (v := ?_) (by kernel_rfl) rfl rfl HF (fun _ _ _ h => h) (.inl ⟨by rfl, ?_⟩) (by first | assumption | rfl) ?_
    rotate_left
    · intro w hS; try subst hS
      go_simp; try with_reducible rfl
    try simp only [Act.put, List.setIfInBounds_toArray, List.set_cons_zero, List.set_cons_succ]
    refine AnyH.take (i := 2) (d := some 17) (v := ?_) (by kernel_rfl) rfl rfl HF (fun _ _ _ h => h) (.inl ⟨by rfl, ?_⟩) (by first | assumption | rfl) ?_
    rotate_left
    · intro w hS; try subst hS
      go_simp; try with_reducible rfl
    try simp only [Act.put, List.setIfInBounds_toArray, List.set_cons_zero, List.set_cons_succ]
    refine AnyH.take (i := 3) (d := some 18) (v := ?_) (by kernel_rfl) rfl rfl HF (fun _ _ _ h => h) (.inl ⟨by rfl, ?_⟩) (by first | assumption | rfl) ?_
    rotate_left
    · intro w hS; try subst hS
      go_simp; try with_reducible rfl
    try simp only [Act.put, List.setIfInBounds_toArray, List.set_cons_zero, List.set_cons_succ]
    refine AnyH.take (i := 4) (d := some 19) (v := ?_) (by kernel_rfl) rfl rfl HF (fun _ _ _ h => h) (.inl ⟨by rfl, ?_⟩) (by first | assumption | rfl) ?_
    rotate_left
    · intro w hS; try subst hS
      go_simp; try with_reducible rfl
    try simp only [Act.put, List.setIfInBounds_toArray, List.set_cons_zero, List.set_cons_succ]
    refine AnyH.take (i := 5) (d := some 20) (v := ?_) (by kernel_rfl) rfl rfl HF (fun _ _ _ h => h) (.inl ⟨by rfl, ?_⟩) (by first | assumption | rfl) ?_
    rotate_left
    · intro w hS; try subst hS
      go_simp; try with_reducible rfl
    try simp only [Act.put, List.setIfInBounds_toArray, List.set_cons_zero, List.set_cons_succ]
    refine AnyH.take (i := 6) (d := some 21) (v := ?_) (by kernel_rfl) rfl rfl HF (fun _ _ _ h => h) (.inl ⟨by rfl, ?_⟩) (by first | assumption | rfl) ?_
    rotate_left
    · intro w hS; try subst hS
      go_simp; try with_reducible rfl
    try simp only [Act.put, List.setIfInBounds_toArray, List.set_cons_zero, List.set_cons_succ]
    refine AnyH.take (i := 7) (d := some 22) (v := ?_) (by kernel_rfl) rfl rfl HF (fun _ _ _ h => h) (.inl ⟨by rfl, ?_⟩) (by first | assumption | rfl) ?_
    rotate_left
    · intro w hS; try subst hS
      go_simp; try with_reducible rfl
    try simp only [Act.put, List.setIfInBounds_toArray, List.set_cons_zero, List.set_cons_succ]
    refine AnyH.take (i := 8) (d := some 23) (v := ?_) (by kernel_rfl) rfl rfl HF (fun _ _ _ h => h) (.inl ⟨by rfl, ?_⟩) (by first | assumption | rfl) ?_
    rotate_left
    · intro w hS; try subst hS
      go_simp; try with_reducible rfl
    try simp only [Act.put, List.setIfInBounds_toArray, List.set_cons_zero, List.set_cons_succ]
    refine AnyH.take (i := 9) (d := some 24) (v := ?_) (by kernel_rfl) rfl rfl HF (fun _ _ _ h => h) (.inl ⟨by rfl, ?_⟩) (by first | assumption | rfl) ?_
    rotate_left
    · intro w hS; try subst hS
      go_simp; try with_reducible rfl
    try simp only [Act.put, List.setIfInBounds_toArray, List.set_cons_zero, List.set_cons_succ]
    refine AnyH.take (i := 10) (d := some 25) (v := ?_) (by kernel_rfl) rfl rfl HF (fun _ _ _ h => h) (.inl ⟨by rfl, ?_⟩) (by first | assumption | rfl) ?_
    rotate_left
    · intro w hS; try subst hS
      go_simp; try with_reducible rfl
    try simp only [Act.put, List.setIfInBounds_toArray, List.set_cons_zero, List.set_cons_succ]
    refine AnyH.take (i := 11) (d := some 26) (v := ?_) (by kernel_rfl) rfl rfl HF (fun _ _ _ h => h) (.inl ⟨by rfl, ?_⟩) (by first | assumption | rfl) ?_
    rotate_left
    · intro w hS; try subst hS
      go_simp; try with_reducible rfl
    try simp only [Act.put, List.setIfInBounds_toArray, List.set_cons_zero, List.set_cons_succ]
    refine AnyH.take (i := 12) (d := some 27) (v := ?_) (by kernel_rfl) rfl rfl HF (fun _ _ _ h => h) (.inl ⟨by rfl, ?_⟩) (by first | assumption | rfl) ?_
    rotate_left
    · intro w hS; try subst hS
      go_simp; try with_reducible rfl
    try simp only [Act.put, List.setIfInBounds_toArray, List.set_cons_zero, List.set_cons_succ]
    refine AnyH.take (i := 13) (d := some 28) (v := ?_) (by kernel_rfl) rfl rfl HF (fun _ _ _ h => h) (.inl ⟨by rfl, ?_⟩) (by first | assumption | rfl) ?_
    rotate_left
    · intro w hS; try subst hS
      go_simp; try with_reducible rfl
    try simp only [Act.put, List.setIfInBounds_toArray, List.set_cons_zero, List.set_cons_succ]
    refine AnyH.take (i := 14) (d := some 29) (v := ?_) (by kernel_rfl) rfl rfl HF (fun _ _ _ h => h) (.inl ⟨by rfl, ?_⟩) (by first | assumption | rfl) ?_
    rotate_left
    · intro w hS; try subst hS
      go_simp; try with_reducible rfl
    try simp only [Act.put, List.setIfInBounds_toArray, List.set_cons_zero, List.set_cons_succ]
    refine AnyH.take (i := 15) (d := some 30) (v := ?_) (by kernel_rfl) rfl rfl HF (fun _ _ _ h => h) (.inl ⟨by rfl, ?_⟩) (by first | assumption | rfl) ?_
    rotate_left
    · intro w hS; try subst hS
      go_simp; try with_reducible rfl
    try simp only [Act.put, List.setIfInBounds_toArray, List.set_cons_zero, List.set_cons_succ]
    refine AnyH.take (i := 16) (d := some 31) (v := ?_) (by kernel_rfl) rfl rfl HF (fun _ _ _ h => h) (.inl ⟨by rfl, ?_⟩) (by first | assumption | rfl) ?_
    rotate_left
    · intro w hS; try subst hS
      go_simp; try with_reducible rfl
    try simp only [Act.put, List.setIfInBounds_toArray, List.set_cons_zero, List.set_cons_succ]
    refine AnyH.take (i := 17) (d := some 32) (v := ?_) (by kernel_rfl) rfl rfl HF (fun _ _ _ h => h) (.inl ⟨by rfl, ?_⟩) (by first | assumption | rfl) ?_
    rotate_left
    · intro w hS; try subst hS
      go_simp; try with_reducible rfl
    try simp only [Act.put, List.setIfInBounds_toArray, List.set_cons_zero, List.set_cons_succ]
    refine AnyH.take (i := 18) (d := some 33) (v := ?_) (by kernel_rfl) rfl rfl HF (fun _ _ _ h => h) (.inl ⟨by rfl, ?_⟩) (by first | assumption | rfl) ?_
    rotate_left
    · intro w hS; try subst hS
      go_simp; try with_reducible rfl
    try simp only [Act.put, List.setIfInBounds_toArray, List.set_cons_zero, List.set_cons_succ]
    refine AnyH.take (i := 19) (d := some 34) (v := ?_) (by kernel_rfl) rfl rfl HF (fun _ _ _ h => h) (.inl ⟨by rfl, ?_⟩) (by first | assumption | rfl) ?_
    rotate_left
    · intro w hS; try subst hS
      go_simp; try with_reducible rfl
    try simp only [Act.put, List.setIfInBounds_toArray, List.set_cons_zero, List.set_cons_succ]
    refine AnyH.take (i := 20) (d := some 35) (v := ?_) (by kernel_rfl) rfl rfl HF (fun _ _ _ h => h) (.inl ⟨by rfl, ?_⟩) (by first | assumption | rfl) ?_
    rotate_left
    · intro w hS; try subst hS
      go_simp; try with_reducible rfl
    try simp only [Act.put, List.setIfInBounds_toArray, List.set_cons_zero, List.set_cons_succ]
    refine AnyH.take (i := 21) (d := some 2) (v := ?_) (by kernel_rfl) rfl rfl HF (fun _ _ _ h => h) (.inl ⟨by rfl, ?_⟩) (by first | assumption | rfl) ?_
    rotate_left
    · intro w hS; try subst hS
      go_simp; try with_reducible rfl
    try simp only [Act.put, List.setIfInBounds_toArray, List.set_cons_zero, List.set_cons_succ]
    refine AnyH.take (i := 22) (d := some 3) (v := ?_) (by kernel_rfl) rfl rfl HF (fun _ _ _ h => h) (.inl ⟨by rfl, ?_⟩) (by first | assumption | rfl) ?_
    rotate_left
    · intro w hS; try subst hS
      go_simp; try with_reducible rfl
    try simp only [Act.put, List.setIfInBounds_toArray, List.set_cons_zero, List.set_cons_succ]
    refine AnyH.take (i := 23) (d := some 4) (v := ?_) (by kernel_rfl) rfl rfl HF (fun _ _ _ h => h) (.inl ⟨by rfl, ?_⟩) (by first | assumption | rfl) ?_
    rotate_left
    · intro w hS; try subst hS
      go_simp; try with_reducible rfl
    try simp only [Act.put, List.setIfInBounds_toArray, List.set_cons_zero, List.set_cons_succ]
    refine AnyH.take (i := 24) (d := some 5) (v := ?_) (by kernel_rfl) rfl rfl HF (fun _ _ _ h => h) (.inl ⟨by rfl, ?_⟩) (by first | assumption | rfl) ?_
    rotate_left
    · intro w hS; try subst hS
      go_simp; try with_reducible rfl
    try simp only [Act.put, List.setIfInBounds_toArray, List.set_cons_zero, List.set_cons_succ]
    refine AnyH.done (by kernel_rfl) ?_
    clear d1 d2 d3 m1 m2 m3
    have HS0 := Lib.hid S0
    clear S0
    go_wp2_with fail
    refine bodyPost_ret (v := .tuple #[.int .i64 id, .int .i64 ln, .slice ua ul uc, .bool (decide (ln ≤ 4096))]) (by simp [results, Try.results13, go_sem]) rfl ?_
    obtain ⟨f1, f2, f3, f4⟩ := HFIN.out
    refine ⟨id, (ua, ul, uc), by rw [f4], f1, f2, ?_, fun h => ?_, Below.after HB1.out HS0.out⟩
    · by_cases h : ln ≤ 4096
      · obtain ⟨va, vc, hv⟩ := (f3 h).len
        simp only [slcV, Value.slice.injEq] at hv
        exact .inl hv.2.1
      · exact .inr (by rw [f4]; omega)
    · rw [f4] at h
      exact SlA.below (SlA.below (f3 h) HB1.out) HS0.out
end M
end Go.Proofs.Ytpjcfepngjpfbaa
namespace Go.Proofs.Ytpjcfepngjpfbaa
open Go.RowKit Go.Lib
namespace M
attribute [local go_sem] Oper.semAt_some
theorem mask61 (x : Int) : ∃ m : Nat, bits .and .i64 x 2305843009213693951 = (m : Int) ∧ m ≤ 2305843009213693951 := by
  have h : (BitVec.ofInt 64 x &&& BitVec.ofInt 64 2305843009213693951).toNat ≤ 2305843009213693951 := by
    rw [BitVec.toNat_and]
    exact Nat.le_trans Nat.and_le_right (by decide)
  have e : bits .and .i64 x 2305843009213693951 = IntKind.i64.wrap ((BitVec.ofInt 64 x &&& BitVec.ofInt 64 2305843009213693951).toNat : Int) := rfl
  generalize (BitVec.ofInt 64 x &&& BitVec.ofInt 64 2305843009213693951).toNat = m at h e
  refine ⟨m, ?_, h⟩
  rw [e, IntKind.wrap_i64]
  omega
set_option maxRecDepth 100000 in
set_option maxHeartbeats 1000000 in
theorem offset_any (W : World) (x : Int) {n : Nat} (hn : n ≤ 1152921504606846976) : Calls Try.prog 15 #[.int .i64 x, .int .i64 n] W fun e w' => ∃ k : Nat, e = .returned (.int .i64 k) ∧ k ≤ n ∧ w' = W := by
  have hnw : IntKind.i64.wrap ((n : Int) + 1) = ((n + 1 : Nat) : Int) := by rw [IntKind.wrap_i64]; omega
  obtain ⟨m, hm⟩ : ∃ m, n + 1 = m := ⟨_, rfl⟩
  rw [hm] at hnw
  have hm0 : ¬ (m : Int) = 0 := by omega
  have hm1 : ((m : Int) == 0) = false := by simp; omega
  have hm2 : ¬ m = 0 := by omega
  obtain ⟨q, hq, hq2⟩ := mask61 (x / 8)
  have ht : Int.tmod (q : Int) (m : Int) = ((q % m : Nat) : Int) := rfl
  obtain ⟨k, hk⟩ : ∃ k, q % m = k := ⟨_, rfl⟩
  have hkm : k < m := by rw [← hk]; exact Nat.mod_lt _ (by omega)
  have hkw : IntKind.i64.wrap (k : Int) = (k : Int) := by rw [IntKind.wrap_i64]; omega
  rw [hk] at ht
  clear hk
  go_enter Try.func15, Try.ntmps15
  go_wp2_with fail
  go_ret
  exact ⟨k, rfl, by omega, rfl⟩
end M
end Go.Proofs.Ytpjcfepngjpfbaa
namespace Go.Proofs.Ytpjcfepngjpfbaa
open Go.ChangeShapes Go.WideShapes Go.ChangeAt Go.RowKit Go.OpenShut Go.ChangeMaps Go.Deep
namespace M
theorem cellsStep : Try.prog.cellsOf 95 = 4 := by kernel_rfl
theorem step_struct : ∃ f0 f1 f2 f3 : Field, Try.prog.underlying 95 = some (.struct #[f0, f1, f2, f3]) ∧ (f0.type = 4 ∧ f0.offset = 0) ∧ (f1.type = 5 ∧ f1.offset = 1) ∧ (f2.type = 5 ∧ f2.offset = 2) ∧ (f3.type = 5 ∧ f3.offset = 3) := ⟨_, _, _, _, Try.underlying95, ⟨rfl, rfl⟩, ⟨rfl, rfl⟩, ⟨rfl, rfl⟩, ⟨rfl, rfl⟩⟩
theorem cells4 {l : List Value} (h : l.length = 4) : ∃ a b c d, l = [a, b, c, d] := by
  match l, h with
  | [a, b, c, d], _ => exact ⟨a, b, c, d, rfl⟩
theorem add_succ4 (b : Addr) (j : Nat) : b.add (j + 1) = ⟨b.block, b.off + (j + 1), none⟩ := by unfold Addr.add; simp
theorem add_zero4 (b : Addr) : b.add 0 = b := by unfold Addr.add; simp
theorem step_open {H : Type} {enc : TypeId × Value → H} {W : World} {base : Nat} {sp : Nat → Bool} {hd : Bool} {n : Nat} {cs : List Value} {x : DataW H × List MemPlace} (h : DataW.trod enc Try.prog W base sp hd n 95 cs = some x) (hl : cs.length = 4) :
    ∃ m : Stp, (m.letter < 256 ∧ m.a < 256 ∧ m.b < 256) ∧ cs = [.bool m.join, .int .u8 m.letter, .int .u8 m.a, .int .u8 m.b] := by
  obtain ⟨f0, f1, f2, f3, hs, ⟨t0, o0⟩, ⟨t1, o1⟩, ⟨t2, o2⟩, ⟨t3, o3⟩⟩ := step_struct
  obtain ⟨a, b, c, d, rfl⟩ := cells4 hl
  obtain ⟨xs, m, -, -, -, hx, hf⟩ := DataW.trod_struct hs h
  have hx2 : xs.length = 4 := hx
  have h0 := hf 0 f0 rfl; have h1 := hf 1 f1 rfl; have h2 := hf 2 f2 rfl; have h3 := hf 3 f3 rfl
  have eI : Try.prog.cellsOf 4 = 1 := by kernel_rfl
  have eU : Try.prog.cellsOf 5 = 1 := by kernel_rfl
  rw [t0, o0, eI] at h0; rw [t1, o1, eU] at h1; rw [t2, o2, eU] at h2; rw [t3, o3, eU] at h3
  simp only [List.drop_zero, List.drop_succ_cons, List.take_succ_cons, List.take_zero] at h0 h1 h2 h3
  rw [List.getElem?_eq_getElem (by omega)] at h0 h1 h2 h3
  obtain ⟨y0, g0, -⟩ := DataW.trod_bool Try.underlying4 h0
  obtain ⟨y1, g1, -, w1⟩ := DataW.trod_int Try.underlying5 h1
  obtain ⟨y2, g2, -, w2⟩ := DataW.trod_int Try.underlying5 h2
  obtain ⟨y3, g3, -, w3⟩ := DataW.trod_int Try.underlying5 h3
  simp only [List.cons.injEq, and_true] at g0 g1 g2 g3
  subst g0 g1 g2 g3
  have b1 := bounds_u8 w1
  have b2 := bounds_u8 w2
  have b3 := bounds_u8 w3
  refine ⟨⟨y0, y1.toNat, y2.toNat, y3.toNat⟩, ⟨by dsimp only; omega, by dsimp only; omega, by dsimp only; omega⟩, ?_⟩
  have e1 : ((y1.toNat : Nat) : Int) = y1 := by omega
  have e2 : ((y2.toNat : Nat) : Int) = y2 := by omega
  have e3 : ((y3.toNat : Nat) : Int) = y3 := by omega
  dsimp only
  rw [e1, e2, e3]
instance : Inhabited Stp := ⟨⟨false, 0, 0, 0⟩⟩
theorem steps_cell {H : Type} {enc : TypeId × Value → H} {W : World} {base : Nat} {sp : Nat → Bool} {hd : Bool} {fuel : Nat} {c0 : Value} {x : DataW H × List MemPlace} (hf : DataW.trod enc Try.prog W base sp hd fuel 22 [c0] = some x) :
    ∃ L, RowStp W c0 L := by
  rcases open_slice Try.underlying22 hf with ⟨e, -⟩ | ⟨a, len, cap, m, n, D, Pl, e, -, hl, hm, hmm, -, hi⟩
  · simp only [List.cons.injEq, and_true] at e
    subst e
    exact ⟨[], ⟨none, 0, rfl, by simp, by unfold maxLen; omega, by simp, fun i h => by cases h⟩⟩
  · simp only [List.cons.injEq, and_true] at e
    subst e
    have hlm : len ≤ m := by rw [hmm]; split <;> omega
    have hall : ∀ i, i < len → ∃ x : Stp, (x.letter < 256 ∧ x.a < 256 ∧ x.b < 256) ∧ StpAt W (a.add (i * 4)) x := by
      intro i hil
      obtain ⟨cs, hc, ht⟩ := hi i (by omega)
      rw [cellsStep] at hc
      obtain ⟨-, hcl, hat⟩ := World.cells?_some hc
      obtain ⟨x, hx, rfl⟩ := step_open ht hcl
      have q0 := hat 0 (by omega); have q1 := hat 1 (by omega); have q2 := hat 2 (by omega); have q3 := hat 3 (by omega)
      rw [add_succ4] at q1 q2 q3
      rw [add_zero4] at q0
      exact ⟨x, hx, q0, q1, q2, q3⟩
    obtain ⟨f, hf⟩ := choose_lt hall
    refine ⟨(List.range len).map f, ⟨some a, cap, by simp, by simpa using hl, hm, fun q hq => ?_, fun i hil => ⟨a, rfl, ?_, ?_⟩⟩⟩
    · simp only [List.mem_map, List.mem_range] at hq
      obtain ⟨i, hi, rfl⟩ := hq
      exact (hf i hi).1
    · have hil' : i < len := by simpa using hil
      have h0 := (hf i hil').2.1
      rw [← adb a (i * 4)]
      unfold World.cell? at h0
      cases hh : W.heap[(a.add (i * 4)).block]? with
      | none => rw [hh] at h0; cases h0
      | some o => exact (Array.getElem?_eq_some_iff.1 hh).1
    · have hil' : i < len := by simpa using hil
      simp only [List.getElem_map, List.getElem_range]
      exact (hf i hil').2
theorem steps_open {H : Type} {enc : TypeId × Value → H} {W : World} {base : Nat} {sp : Nat → Bool} {hd : Bool} {a0 : Option Addr} {len cap : Nat} {d : DataW H} {p : List MemPlace} (h : DataW.Trod enc Try.prog W base sp hd 22 (.slice a0 len cap) d p) :
    ∃ L, RowStp W (.slice a0 len cap) L := by
  obtain ⟨fuel, hf⟩ := h
  exact steps_cell hf
end M
end Go.Proofs.Ytpjcfepngjpfbaa
