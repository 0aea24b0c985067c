/- walk: take: one copy from the top of a stack.
A range over an iterator that writes cells of its own between two rounds (blocks of types ts): its contract, and the caller's law. After the library's law for iterators that write none. No program.
The marks that iterators leave in a frame (as in pmap/XFroms). No program. -/
import Derived.Test.YtpjcfepngjpfbaaCopW
import Derived.Test.YtpjcfepngjpfbaaAw
import Derived.RangeFuncFrom
import Derived.RangeFuncLeaves
import Derived.Test.YtpjcfepngjpfbaaCom
set_option linter.unusedVariables false
set_option linter.unusedSimpArgs false
namespace Go.Proofs.Ytpjcfepngjpfbaa
open Go.RowKit Go.Lib
theorem KpL.set {ts : List TypeId} {n : Nat} {A B : World} (h : KpL ts n A B) {p : Addr} {cs : Array Value} {t : TypeId} {fz : Nat × Nat} (hb : B.heap[p.block]? = some (.cells cs t fz)) (ht : t ∈ ts) (hn : n ≤ p.block) (u : Value) : KpL ts n A (B.setCell p u) :=
  ⟨h.below.setCell hn u, fun t' ht' => (h.cells t' ht').trans (KeepT.setCell hb (fun e => ht' (e ▸ ht))), keepsOthers_setCell h.others _ _⟩
theorem KpL.new {ts : List TypeId} {n : Nat} {A B : World} (h : KpL ts n A B) {p : Addr} (hp : A.heap.size ≤ p.block) (hn : n ≤ p.block) (u : Value) : KpL ts n A (B.setCell p u) := by
  refine ⟨h.below.setCell hn u, fun t ht b cs fz e => ?_, keepsOthers_setCell h.others _ _⟩
  have hlt := (Array.getElem?_eq_some_iff.1 e).1
  rw [Below.heap_setCell _ _ _ _ (by omega)]
  exact h.cells t ht b cs fz e
namespace M
attribute [local go_sem] Oper.semAt_some
/-- A box with a stack. -/
def CxC (W : World) (g : Nat) (v : Value) : Prop := W.heap[g]? = some (.cells #[v] 102 (0, 0))
theorem CxC.cell {W : World} {g : Nat} {v : Value} (h : CxC W g v) : W.cell? ⟨g, 0, none⟩ = some v ∧ W.frozen? ⟨g, 0, none⟩ = false := by
  unfold CxC at h
  simp [World.cell?, World.frozen?, h]
abbrev CpT : List TypeId := [107, 102]
set_option maxRecDepth 100000 in
set_option maxHeartbeats 4000000 in
theorem take_any {n0 n1 B most g gl n cap : Nat} {W : World} {E : List En} (hs : StAt n0 W B most E) (hE : E.length ≤ 1048576) {L : List Cp} {c : Cp} (hn : L.length = n) (hnb : n ≤ 4000000) (hx : CxC W g (.slice (some ⟨gl, 0, none⟩) (n + 1) cap)) (hL : Cps n1 W (.slice (some ⟨gl, 0, none⟩) (n + 1) cap) (L ++ [c])) (hc : OkC E c) (hg : n1 ≤ g) :
    Calls Try.prog 47 #[.pointer (some ⟨B, 0, none⟩), .pointer (some ⟨g, 0, none⟩)] W fun e w' => e = .returned (ruV (entAt E c.id).ru) ∧ ∃ m : Nat, m = (popC L c).length ∧ CxC w' g (.slice (some ⟨gl, 0, none⟩) m cap) ∧ Cps n1 w' (.slice (some ⟨gl, 0, none⟩) m cap) (popC L c) ∧ KpL CpT n1 W w' := by
  obtain ⟨W1, hW1⟩ : ∃ w, W.alloc (.cells #[.int .i64 0, .int .u8 0, .int .i64 0, .int .i64 0, .int .i64 0] 59) = w := ⟨_, rfl⟩
  have k1 : RuC W1 W.heap.size ⟨0, 0, 0, 0, 0⟩ := by rw [← hW1]; exact heap_new' _ _
  have b1 : Below W.heap.size W W1 := by rw [← hW1]; exact (Below.refl _ _).alloc (Nat.le_refl _) _
  have hgl : (∃ cs, W.heap[gl]? = some (.cells cs 107 (0, 0))) ∧ n1 ≤ gl ∧ n + 1 ≤ cap := by
    rcases hL.2 with ⟨hv, -⟩ | ⟨g', c', cur, hv, hb, hh, h1, -⟩
    · cases hv
    · simp only [Value.slice.injEq, Option.some.injEq, Addr.mk.injEq, and_true] at hv
      obtain ⟨rfl, h2, rfl⟩ := hv
      exact ⟨⟨cur, hh⟩, hb, by rw [h2]; exact h1⟩
  obtain ⟨⟨cs, hcs⟩, hgn, hcap⟩ := hgl
  have hne : gl ≠ g := fun e => by subst e; unfold CxC at hx; rw [hcs] at hx; simp at hx
  have hgs := (Array.getElem?_eq_some_iff.1 (show W.heap[g]? = _ from hx)).1
  have hn1 : n1 ≤ W.heap.size := by omega
  have x1 : CxC W1 g (.slice (some ⟨gl, 0, none⟩) (n + 1) cap) := below_block b1 hx
  have l1 := SlA.below hL b1
  obtain ⟨c0, cf⟩ := x1.cell
  have hll : n < (L ++ [c]).length := by simp [hn]
  have hlc : (L ++ [c])[n] = c := by simp [← hn]
  have q0 := SlA.cell encC_len l1 hll (j := 0) (by omega)
  have q1 := SlA.cell encC_len l1 hll (j := 1) (by omega)
  rw [hlc] at q0 q1
  replace q0 : W1.cell? ⟨gl, n * 2, none⟩ = some (.int .i64 c.id) := q0
  replace q1 : W1.cell? ⟨gl, n * 2 + 1, none⟩ = some (.int .i64 c.times) := q1
  have g1 : W1.heap[gl]? = some (.cells cs 107 (0, 0)) := below_block b1 hcs
  have fq : W1.frozen? ⟨gl, n * 2 + 1, none⟩ = false := by simp [World.frozen?, g1]
  obtain ⟨w2, hw2⟩ : ∃ w, W1.setCell ⟨gl, n * 2 + 1, none⟩ (.int .i64 ((c.times - 1 : Nat) : Int)) = w := ⟨_, rfl⟩
  have l2 : Cps n1 w2 (.slice (some ⟨gl, 0, none⟩) (n + 1) cap) (L ++ [(⟨c.id, c.times - 1⟩ : Cp)]) := by
    rw [← hw2, ← hn]
    rw [← hn] at l1
    exact SlA.last encC_len l1 (j := 1) (by omega) rfl
  have x2 : CxC w2 g (.slice (some ⟨gl, 0, none⟩) (n + 1) cap) := by rw [← hw2]; exact set_other (Ne.symm hne) x1
  have k2 : RuC w2 W.heap.size ⟨0, 0, 0, 0, 0⟩ := by
    rw [← hw2]
    exact set_other (fun e => by rw [e] at k1; unfold RuC at k1; rw [g1] at k1; simp at k1) k1
  have p2 : KpL CpT n1 W w2 := by rw [← hw2]; exact (KpL.of b1 hn1).set (p := ⟨gl, n * 2 + 1, none⟩) g1 (by simp) hgn _
  obtain ⟨d0, df⟩ := x2.cell
  have q2 : w2.cell? ⟨gl, n * 2 + 1, none⟩ = some (.int .i64 ((c.times - 1 : Nat) : Int)) := by
    have hll2 : n < (L ++ [(⟨c.id, c.times - 1⟩ : Cp)]).length := by simp [hn]
    have h := SlA.cell encC_len l2 hll2 (j := 1) (by omega)
    rw [show (L ++ [(⟨c.id, c.times - 1⟩ : Cp)])[n] = ⟨c.id, c.times - 1⟩ by simp [← hn]] at h
    exact h
  have hct := hc.one; have hcm := hc.most
  have htw : IntKind.i64.wrap ((c.times : Int) - 1) = ((c.times - 1 : Nat) : Int) := by rw [IntKind.wrap_i64]; omega
  have hj1 : (n : Int) < ((n + 1 : Nat) : Int) := by omega
  have hj2 : (n : Int) ≤ (cap : Int) := by omega
  have hj3 : n ≤ cap := by omega
  have hj4 : IntKind.i64.wrap (((n + 1 : Nat) : Int) - 1) = (n : Int) := by rw [IntKind.wrap_i64]; omega
  have hj5 : (0 : Int) ≤ (n : Int) := by omega
  obtain ⟨r, hr⟩ : ∃ r, (entAt E c.id).ru = r := ⟨_, rfl⟩
  have HRU : Hid (∀ w, KpL CpT n1 W w → Calls Try.prog 23 #[.pointer (some ⟨B, 0, none⟩), .int .i64 c.id] w fun e w' => e = .returned (.tuple #[ruV r, .nilIface]) ∧ Below w.heap.size w w') := Lib.hid (fun w hw => by
    have := rule_any (hs.kpl hw (by decide) (by decide)) hc.pos hc.le hE
    rwa [hr] at this)
  unfold ruV at HRU
  rw [hr]
  have HG := Lib.hid (And.intro hg hgs)
  have HN1 := Lib.hid hn1
  have HFIN : Hid (∀ (w : World) (m : Nat) (L' : List Cp), m = L'.length → CxC w g (.slice (some ⟨gl, 0, none⟩) m cap) → Cps n1 w (.slice (some ⟨gl, 0, none⟩) m cap) L' → RuC w W.heap.size ⟨0, 0, 0, 0, 0⟩ → KpL CpT n1 W w → ∃ wf, ((((w.setCell ⟨W.heap.size, 0, none⟩ (.int .i64 r.kind)).setCell ⟨W.heap.size, 1, none⟩ (.int .u8 r.letter)).setCell ⟨W.heap.size, 2, none⟩ (.int .i64 r.left)).setCell ⟨W.heap.size, 3, none⟩ (.int .i64 r.right)).setCell ⟨W.heap.size, 4, none⟩ (.int .i64 r.times) = wf ∧ RuC wf W.heap.size r ∧ CxC wf g (.slice (some ⟨gl, 0, none⟩) m cap) ∧ Cps n1 wf (.slice (some ⟨gl, 0, none⟩) m cap) L' ∧ KpL CpT n1 W wf) := Lib.hid (fun w m L' hm h1 h2 h3 h4 => by
    have s0 := h3
    unfold RuC at s0
    have s1 := heap_set0 (i := 0) (.int .i64 r.kind) s0
    have s2 := heap_set0 (i := 1) (.int .u8 r.letter) s1
    have s3 := heap_set0 (i := 2) (.int .i64 r.left) s2
    have s4 := heap_set0 (i := 3) (.int .i64 r.right) s3
    have hgW : g ≠ W.heap.size := by have := HG.out.2; omega
    refine ⟨_, rfl, h3.set r, set_other hgW (set_other hgW (set_other hgW (set_other hgW (set_other hgW h1)))), ?_, ((((h4.new (p := ⟨W.heap.size, 0, none⟩) (Nat.le_refl _) HN1.out _).new (p := ⟨W.heap.size, 1, none⟩) (Nat.le_refl _) HN1.out _).new (p := ⟨W.heap.size, 2, none⟩) (Nat.le_refl _) HN1.out _).new (p := ⟨W.heap.size, 3, none⟩) (Nat.le_refl _) HN1.out _).new (p := ⟨W.heap.size, 4, none⟩) (Nat.le_refl _) HN1.out _⟩
    exact SlA.setCell (SlA.setCell (SlA.setCell (SlA.setCell (SlA.setCell h2 (a := ⟨W.heap.size, 0, none⟩) _ s0 (by decide)) (a := ⟨W.heap.size, 1, none⟩) _ s1 (by decide)) (a := ⟨W.heap.size, 2, none⟩) _ s2 (by decide)) (a := ⟨W.heap.size, 3, none⟩) _ s3 (by decide)) (a := ⟨W.heap.size, 4, none⟩) _ s4 (by decide))
  have X2 := Lib.hid x2; have L2 := Lib.hid l2; have K2 := Lib.hid k2; have P2 := Lib.hid p2; have HNN := Lib.hid hn
  obtain ⟨tm, htm⟩ : ∃ y, c.times - 1 = y := ⟨_, rfl⟩
  rw [htm] at htw q2 hw2 L2
  by_cases h1 : c.times = 1
  · have htb : ((tm : Int) == 0) = true := by simp; omega
    have HPC : Hid (popC L c = L) := Lib.hid (by unfold popC; rw [if_pos h1])
    obtain ⟨w3, hw3⟩ : ∃ w, w2.setCell ⟨g, 0, none⟩ (.slice (some ⟨gl, 0, none⟩) n cap) = w := ⟨_, rfl⟩
    have x3 : CxC w3 g (.slice (some ⟨gl, 0, none⟩) n cap) := by
      rw [← hw3]
      have h := X2.out
      unfold CxC at h ⊢
      exact heap_set0 _ h
    have l3 : Cps n1 w3 (.slice (some ⟨gl, 0, none⟩) n cap) L := by
      rw [← hw3]
      exact SlA.setCell (a := ⟨g, 0, none⟩) (SlA.pop encC_len L2.out HNN.out) _ X2.out (by decide)
    have k3 : RuC w3 W.heap.size ⟨0, 0, 0, 0, 0⟩ := by rw [← hw3]; exact set_other (by omega) K2.out
    have p3 : KpL CpT n1 W w3 := by rw [← hw3]; exact P2.out.set (p := ⟨g, 0, none⟩) X2.out (by simp) hg _
    have X3 := Lib.hid x3; have L3 := Lib.hid l3; have K3 := Lib.hid k3; have P3 := Lib.hid p3
    clear hs hx hL hc k1 b1 hcs hgn hcap hne hgs hn1 x1 l1 hll hlc g1 l2 x2 k2 p2 hct hcm hr x3 l3 k3 p3 h1 htm hn hg
    go_enter Try.func47, Try.ntmps47
    go_wp2_with fail
    refine (HRU.out w3 P3.out).mono ?_; rintro e w4 ⟨rfl, b4⟩
    obtain ⟨wz5, w5, hz5, hs5, kr, br, ⟨r0, r1, r2, r3, r4⟩, e0, e1, e2, e3, e4⟩ := newRu w4 r
    obtain ⟨gr, hgr⟩ : ∃ y, w4.heap.size = y := ⟨_, rfl⟩
    rw [hgr] at hs5 kr r0 r1 r2 r3 r4 e0 e1 e2 e3 e4
    obtain ⟨y0, y1, y2, y3, y4⟩ := kr.cells
    have b5 := Below.after b4 br
    have k5 : RuC w5 W.heap.size ⟨0, 0, 0, 0, 0⟩ := below_block b5 K3.out
    obtain ⟨z0, z1, z2, z3, z4⟩ : w5.cell? ⟨W.heap.size, 0, none⟩ = some (.int .i64 0) ∧ w5.cell? ⟨W.heap.size, 1, none⟩ = some (.int .u8 0) ∧ w5.cell? ⟨W.heap.size, 2, none⟩ = some (.int .i64 0) ∧ w5.cell? ⟨W.heap.size, 3, none⟩ = some (.int .i64 0) ∧ w5.cell? ⟨W.heap.size, 4, none⟩ = some (.int .i64 0) := k5.cells
    have v0 := k5.free 0; have v1 := k5.free 1; have v2 := k5.free 2; have v3 := k5.free 3; have v4 := k5.free 4
    obtain ⟨wf, hwf, kf, xf, lf, pf⟩ := HFIN.out w5 n L HNN.out.symm (below_block b5 X3.out) (SlA.below L3.out b5) k5 (P3.out.trans (KpL.of b5 (Nat.le_trans HN1.out P3.out.below.size)))
    obtain ⟨h0, h1, h2, h3, h4⟩ := kf.cells
    have HXF := Lib.hid xf; have HLF := Lib.hid lf; have HPF := Lib.hid pf
    clear b4 kr br b5 k5 kf xf lf pf
    go_wp2_with fail
    exact bodyPost_ret (v := ruV r) (by simp [results, Try.results47, go_sem, h0, h1, h2, h3, h4]) rfl ⟨rfl, n, by rw [HPC.out]; exact HNN.out.symm, HXF.out, by rw [HPC.out]; exact HLF.out, HPF.out⟩
  · have htb : ((tm : Int) == 0) = false := by simp; omega
    have HPC : Hid (popC L c = L ++ [(⟨c.id, tm⟩ : Cp)]) := Lib.hid (by unfold popC; rw [if_neg h1, htm])
    clear hs hx hL hc k1 b1 hcs hgn hcap hne hgs hn1 x1 l1 hll hlc g1 l2 x2 k2 p2 hct hcm hr h1 htm hn hg
    go_enter Try.func47, Try.ntmps47
    go_wp2_with fail
    refine (HRU.out w2 P2.out).mono ?_; rintro e w4 ⟨rfl, b4⟩
    obtain ⟨wz5, w5, hz5, hs5, kr, br, ⟨r0, r1, r2, r3, r4⟩, e0, e1, e2, e3, e4⟩ := newRu w4 r
    obtain ⟨gr, hgr⟩ : ∃ y, w4.heap.size = y := ⟨_, rfl⟩
    rw [hgr] at hs5 kr r0 r1 r2 r3 r4 e0 e1 e2 e3 e4
    obtain ⟨y0, y1, y2, y3, y4⟩ := kr.cells
    have b5 := Below.after b4 br
    have k5 : RuC w5 W.heap.size ⟨0, 0, 0, 0, 0⟩ := below_block b5 K2.out
    obtain ⟨z0, z1, z2, z3, z4⟩ : w5.cell? ⟨W.heap.size, 0, none⟩ = some (.int .i64 0) ∧ w5.cell? ⟨W.heap.size, 1, none⟩ = some (.int .u8 0) ∧ w5.cell? ⟨W.heap.size, 2, none⟩ = some (.int .i64 0) ∧ w5.cell? ⟨W.heap.size, 3, none⟩ = some (.int .i64 0) ∧ w5.cell? ⟨W.heap.size, 4, none⟩ = some (.int .i64 0) := k5.cells
    have v0 := k5.free 0; have v1 := k5.free 1; have v2 := k5.free 2; have v3 := k5.free 3; have v4 := k5.free 4
    obtain ⟨wf, hwf, kf, xf, lf, pf⟩ := HFIN.out w5 (n + 1) (L ++ [(⟨c.id, tm⟩ : Cp)]) (by simp [HNN.out]) (below_block b5 X2.out) (SlA.below L2.out b5) k5 (P2.out.trans (KpL.of b5 (Nat.le_trans HN1.out P2.out.below.size)))
    obtain ⟨h0, h1, h2, h3, h4⟩ := kf.cells
    have HXF := Lib.hid xf; have HLF := Lib.hid lf; have HPF := Lib.hid pf
    clear b4 kr br b5 k5 kf xf lf pf
    go_wp2_with fail
    exact bodyPost_ret (v := ruV r) (by simp [results, Try.results47, go_sem, h0, h1, h2, h3, h4]) rfl ⟨rfl, n + 1, by rw [HPC.out]; simp [HNN.out], HXF.out, by rw [HPC.out]; exact HLF.out, HPF.out⟩
end M
end Go.Proofs.Ytpjcfepngjpfbaa
namespace Go.Proofs.Ytpjcfepngjpfbaa
open Go.RowKit Go.Lib
/-- The iterator's contract: it calls a round for each of what it yields (Nx: what may come next), and may turn blocks of types ts that it has laid itself. -/
def SeqStopsT {α : Type} (F : Fence) (n : Nat) (P : Program) (g : Nat) (lb : Array Value) (encs : α → Array Value) (Kp : World → World → Prop) (ts : List TypeId) (S Sp : List α → Prop) (Nx : List α → α → Prop) (w : World) : Prop :=
  ∀ (l : Nat) (J Jx : List α → World → Prop) (W : World), Below w.heap.size w W → (∀ s A B, J s A → KpL ts W.heap.size A B → J s B) → (∀ s A B, Jx s A → KpL ts W.heap.size A B → Jx s B) →
    (∀ pre x W1, J pre W1 → Nx pre x → YieldAt F (n - 1) P l (encs x) W1 fun e W' =>
      (e = .returned (.bool true) ∧ J (pre ++ [x]) W' ∧ Kp W1 W' ∧ W1.heap.size ≤ W'.heap.size) ∨ (e = .returned (.bool false) ∧ Jx (pre ++ [x]) W')) →
    J [] W →
    CallsIn F n P g (#[.func (.yield l) #[] #[]] ++ lb) W fun e W' => (∃ v, e = .returned v) ∧ ((∃ xs, S xs ∧ J xs W') ∨ (∃ pre, Sp pre ∧ Jx pre W'))
section
variable {F : Fence} {n : Nat} {P : Program}
theorem wpIn_rangeFunc_T {α : Type} {g : Operand} {ps : Array Tmp} {assign body : Code} {Q : Exit → Act → World → Prop} {a : Act} {w : World}
    (hro : F.round = none) (h1 : 1 ≤ n) {gf : Nat} {lb : Array Value} (hg : a.eval g = .func (.func gf) #[] lb) (hFg : F.fn gf) (eg : ∀ args w, (callFunc gf args).run P w = .ok (.enter gf args) w)
    {encs : α → Array Value} {Kp : World → World → Prop} {ts : List TypeId} {S Sp : List α → Prop} {Nx : List α → α → Prop} {w0 : World} (hseq : SeqStopsT F (n - 1) P gf lb encs Kp ts S Sp Nx w0)
    (hKt : ∀ {A B C : World}, Kp A B → Kp B C → Kp A C) (hKb : ∀ (W : World) (l : Nat) (o o' : Obj), w.heap.size ≤ l → W.heap[l]? = some o → o.isCells = false → o.isWalk = false → Kp W (W.putObj l o')) (hb0 : Below w0.heap.size w0 w) (hps : ∀ x, (encs x).size = ps.size)
    (I : List α → World → Prop) (Ix : Code → List α → World → Prop) (hI : OwnFrom w.heap.size I) (hIx : ∀ c, OwnFrom w.heap.size (Ix c)) (hT : ∀ s A B, I s A → KpL ts w.heap.size A B → I s B) (hTx : ∀ c s A B, Ix c s A → KpL ts w.heap.size A B → Ix c s B) (h0 : I [] w)
    (hround : ∀ (l : Nat) (pre : List α) (x : α) (W Wb : World) (K : Act → World → Prop), I pre Wb → Nx pre x → (∀ a', body.wpIn (F.inRound l) (n - 1 - 1) P (ownPostK Kp I Ix (pre ++ [x]) Wb) a' Wb → K a' W) →
      assign.wpIn (F.inRound l) (n - 1 - 1) P (Exit.then K (fun _ _ _ => False)) { tmps := (ps.zip (encs x)).foldl (fun t (p, v) => t.setIfInBounds p v) a.tmps, defers := [] } W)
    (hdone : ∀ (D : Nat) (xs : List α) (W : World), w.heap.size ≤ D → S xs → I xs W → W.heap[D]? = some (.deferred (some [])) → Q .normal { a with defers := { target := .collected D, args := #[] } :: a.defers } W)
    (hstop : ∀ (D : Nat) (c : Code) (pre : List α) (W : World), w.heap.size ≤ D → Sp pre → Ix c pre W → W.heap[D]? = some (.deferred (some [])) → c.wpIn F n P Q { a with defers := { target := .collected D, args := #[] } :: a.defers } W) :
    (Code.rangeFunc g ps assign body).wpIn F n P Q a w := by
  refine wpIn_rangeFunc ?_
  intro fn hfn
  rw [hro]
  obtain ⟨rec, hrec⟩ : ∃ rec : LoopState → Option Code → Loop, rec = fun st pe => { state := st, pending := pe, fn, tmps := a.tmps, params := ps, assign, body, defers := w.heap.size } := ⟨_, rfl⟩
  obtain ⟨D, hD⟩ : ∃ D, w.heap.size = D := ⟨_, rfl⟩
  obtain ⟨W1, hW1⟩ : ∃ W1, (w.alloc (.deferred (some []))).alloc (.loop (rec .ready none)) = W1 := ⟨_, rfl⟩
  have z1 : W1.heap.size = D + 2 := by rw [← hW1, World.size_alloc, World.size_alloc, hD]
  have kL : W1.heap[D + 1]? = some (.loop (rec .ready none)) := by
    rw [← hW1]; have := World.alloc_heap_new (w.alloc (.deferred (some []))) (.loop (rec .ready none)); rwa [World.size_alloc, hD] at this
  have kD : W1.heap[D]? = some (.deferred (some [])) := by
    rw [← hW1, ← hD]; exact (Below.heap_alloc _ _ _ (by simp)).trans (World.alloc_heap_new w _)
  have kI : I [] W1 := by rw [← hW1]; exact hI.alloc _ (hI.alloc _ h0)
  have kb : Below w0.heap.size w0 W1 := by
    rw [← hW1]; exact hb0.trans ((((Below.refl _ w).alloc (Nat.le_refl _) _).alloc (by simp) _).mono hb0.size)
  -- what the iterator's own steps leave
  have carry : ∀ {A B : World} {k : Nat} {o : Obj}, KpL ts W1.heap.size A B → A.heap[k]? = some o → o.isCells = false → B.heap[k]? = some o := fun h hk ho => h.others.same _ _ hk ho
  have wide : ∀ {A B : World}, KpL ts W1.heap.size A B → KpL ts w.heap.size A B := fun h => h.sub (fun _ ht => ht) (by omega)
  refine ⟨D + 1, [{ target := .collected D, args := #[] }], W1, { target := .fn (.func gf) lb, args := #[.func (.yield (D + 1)) #[] #[]] }, W1, gf,
    #[.func (.yield (D + 1)) #[] #[]] ++ lb, W1, ?_, ?_, ?_, ?_, fun _ => h1, ?_⟩
  · rw [← hW1, hrec, ← hD]; exact run_enterLoop_outer _ _ _ _ _
  · simp only [resolve, hg]
    simp [go_sem]
  · intro f' hf'; simp [Target.leads] at hf'; subst hf'; exact hFg
  · simp [invoke, go_sem, eg]
  · refine (hseq (D + 1)
      (fun pre W => I pre W ∧ W.heap[D + 1]? = some (.loop (rec .ready none)) ∧ W.heap[D]? = some (.deferred (some [])))
      (fun pre W => ∃ c, Ix c pre W ∧ W.heap[D + 1]? = some (.loop (rec .done (some c))) ∧ W.heap[D]? = some (.deferred (some [])))
      W1 kb
      (fun s A B hs h => ⟨hT s A B hs.1 (wide h), carry h hs.2.1 rfl, carry h hs.2.2 rfl⟩)
      (fun s A B ⟨c, hc, hl, hk⟩ h => ⟨c, hTx c s A B hc (wide h), carry h hl rfl, carry h hk rfl⟩)
      ?_ ⟨kI, kL, kD⟩).mono ?_
    · rintro pre x W ⟨hi, hl, hk⟩ hlen
      have hlt : D + 1 < W.heap.size := (Array.getElem?_eq_some_iff.1 hl).1
      have hy := run_yield (P := P) (args := encs x) hl (by rw [hrec]; exact hps x)
      rw [hrec] at hy
      obtain ⟨Wb, hWb⟩ : ∃ Wb, W.putObj (D + 1) (.loop { rec .ready none with state := .busy }) = Wb := ⟨_, rfl⟩
      have hbz : Wb.heap.size = W.heap.size := by rw [← hWb]; simp
      have hl2 : Wb.heap[D + 1]? = some (.loop { rec .ready none with state := .busy }) := by rw [← hWb]; exact World.putObj_heap_same hlt
      have hk2 : Wb.heap[D]? = some (.deferred (some [])) := by rw [← hWb]; exact (World.putObj_heap_other (by omega)).trans hk
      have hw2 : Kp W Wb := by rw [← hWb]; exact hKb _ _ _ _ (by omega) hl rfl rfl
      have hi2 : I pre Wb := by rw [← hWb]; exact hI.putObj _ hi (by omega) hl rfl
      refine ⟨fn, _, assign, body, hy, roundIn_of_wpIn hfn (hround _ pre x W Wb _ hi2 hlen fun a' hbody => ⟨_, run_beginRound hl (by rw [hrec]), ?_⟩)⟩
      rw [hWb]
      refine wpIn_mono hbody ?_
      have fin : ∀ (jump : Option Code) (W3 : World), KeepsOthers Wb W3 →
          ∃ W4, (Instr.endRound (D + 1) jump).run P W3 = .ok (.bool jump.isNone) W4 ∧ W4 = W3.putObj (D + 1) (.loop (rec (if jump.isNone then .ready else .done) jump)) ∧
          W3.heap[D + 1]? = some (.loop { rec .ready none with state := .busy }) ∧ W4.heap[D + 1]? = some (.loop (rec (if jump.isNone then .ready else .done) jump)) ∧ W4.heap[D]? = some (.deferred (some [])) ∧ W4.heap.size = W3.heap.size := fun jump W3 hk3 => by
        have hl3 := hk3.same _ _ hl2 rfl
        have hr := run_endRound (P := P) jump hl3
        rw [hrec] at hr ⊢
        exact ⟨_, hr, rfl, by rw [hrec] at hl3; exact hl3, World.putObj_heap_same (Array.getElem?_eq_some_iff.1 hl3).1, (World.putObj_heap_other (by omega)).trans (hk3.same _ _ hk2 rfl), by simp⟩
      rintro e a3 W3 hp
      cases e with
      | normal =>
        obtain ⟨hk3, hkp3, hi3⟩ := hp
        obtain ⟨W4, hr, e4, hl3, hl4, hk4, hz4⟩ := fin none W3 hk3
        subst e4
        exact ⟨_, _, hr, .inl ⟨rfl, ⟨hI.putObj _ hi3 (by omega) hl3 rfl, hl4, hk4⟩, hKt (hKt hw2 hkp3) (hKb _ _ _ _ (by omega) hl3 rfl rfl), by rw [hz4, ← hbz]; exact hk3.size⟩⟩
      | ret =>
        obtain ⟨hk3, hi3⟩ := hp
        obtain ⟨W4, hr, e4, hl3, hl4, hk4, -⟩ := fin (some .ret) W3 hk3
        subst e4
        exact ⟨_, _, hr, .inr ⟨rfl, .ret, (hIx _).putObj _ hi3 (by omega) hl3 rfl, hl4, hk4⟩⟩
      | exit id =>
        obtain ⟨hk3, hi3⟩ := hp
        obtain ⟨W4, hr, e4, hl3, hl4, hk4, -⟩ := fin (some (.exit id)) W3 hk3
        subst e4
        exact ⟨_, _, hr, .inr ⟨rfl, .exit id, (hIx _).putObj _ hi3 (by omega) hl3 rfl, hl4, hk4⟩⟩
      | goto t =>
        obtain ⟨hk3, hi3⟩ := hp
        obtain ⟨W4, hr, e4, hl3, hl4, hk4, -⟩ := fin (some (.goto t)) W3 hk3
        subst e4
        exact ⟨_, _, hr, .inr ⟨rfl, .goto t, (hIx _).putObj _ hi3 (by omega) hl3 rfl, hl4, hk4⟩⟩
      | panic ch => exact hp.elim
      | outgrown => exact hp.elim
    · rintro e W2 ⟨⟨v, rfl⟩, (⟨xs, hS, hi, hl, hk⟩ | ⟨pre, hSp, c, hi, hl, hk⟩)⟩
      · exact ⟨none, _, by have := run_endLoop (P := P) hl (by rw [hrec]; simp); rw [hrec] at this; exact this, hdone _ xs _ (by omega) hS (hI.putObj _ hi (by omega) hl rfl) ((World.putObj_heap_other (by omega)).trans hk)⟩
      · exact ⟨some c, _, by have := run_endLoop (P := P) hl (by rw [hrec]; simp); rw [hrec] at this; exact this, hstop _ c pre _ (by omega) hSp ((hIx c).putObj _ hi (by omega) hl rfl) ((World.putObj_heap_other (by omega)).trans hk)⟩
end
end Go.Proofs.Ytpjcfepngjpfbaa
namespace Go.Proofs.Ytpjcfepngjpfbaa
open Go.RowKit Go.Lib
/-- The marks that iterators have left, the youngest first. -/
def Marks (n : Nat) (w : World) (ds : List Deferred) : Prop := ∃ Ds : List Nat, ds = Ds.map (fun D => { target := .collected D, args := #[] }) ∧ Ds.Pairwise (· > ·) ∧ ∀ D ∈ Ds, n ≤ D ∧ w.heap[D]? = some (.deferred (some []))
theorem Marks.nil (n : Nat) (w : World) : Marks n w [] := ⟨[], rfl, List.Pairwise.nil, fun _ h => by cases h⟩
theorem Marks.below {n : Nat} {A C : World} {ds : List Deferred} (h : Marks n A ds) (hb : Below A.heap.size A C) : Marks n C ds := by
  obtain ⟨Ds, h1, h2, h3⟩ := h
  exact ⟨Ds, h1, h2, fun D hD => ⟨(h3 D hD).1, (hb.block D (Array.getElem?_eq_some_iff.1 (h3 D hD).2).1).trans (h3 D hD).2⟩⟩
theorem Marks.keep {n : Nat} {A C : World} {ds : List Deferred} (h : Marks n A ds) (hb : KeepsOthers A C) : Marks n C ds := by
  obtain ⟨Ds, h1, h2, h3⟩ := h
  exact ⟨Ds, h1, h2, fun D hD => ⟨(h3 D hD).1, hb.same D _ (h3 D hD).2 rfl⟩⟩
theorem Marks.lt {n : Nat} {A : World} {ds : List Deferred} (h : Marks n A ds) {D : Nat} (hD : { target := .collected D, args := #[] } ∈ ds) : D < A.heap.size := by
  obtain ⟨Ds, rfl, h2, h3⟩ := h
  obtain ⟨D', hD', e⟩ := List.mem_map.1 hD
  simp only [Deferred.mk.injEq, Target.collected.injEq, and_true] at e
  subst e
  exact (Array.getElem?_eq_some_iff.1 (h3 _ hD').2).1
theorem Marks.cons {n : Nat} {A : World} {ds : List Deferred} (h : Marks n A ds) {D : Nat} (hlt : ∀ D', { target := .collected D', args := #[] } ∈ ds → D' < D) (hn : n ≤ D) (hD : A.heap[D]? = some (.deferred (some []))) : Marks n A ({ target := .collected D, args := #[] } :: ds) := by
  obtain ⟨Ds, rfl, h2, h3⟩ := h
  refine ⟨D :: Ds, rfl, List.Pairwise.cons (fun D' h' => hlt D' (List.mem_map.2 ⟨D', h', rfl⟩)) h2, fun x hx => ?_⟩
  rcases List.mem_cons.1 hx with rfl | hx
  · exact ⟨hn, hD⟩
  · exact h3 x hx
theorem Marks.leaves {n : Nat} {F : Fence} {d : Nat} {P : Program} {fn : Func} {tmps : Array Value} {R : Ending → World → Prop} {w : World} {ds : List Deferred} (h : Marks n w ds) (hn : n ≤ w.heap.size) (hf : ∀ w', Below n w w' → LeavesIn F d P fn tmps R [] .returning w') : LeavesInM F d P fn tmps R ds .returning w := by
  obtain ⟨Ds, rfl, h2, h3⟩ := h
  induction Ds generalizing w with
  | nil => exact hf w (Below.refl _ _)
  | cons D Ds ih =>
    obtain ⟨hD, hk⟩ := h3 D (List.mem_cons_self ..)
    have hb : Below n w (w.putObj D (.deferred none)) := (Below.refl n w).grown (grownBy_putObj' w D (.deferred none)) hn (fun k e => by cases e; exact hD)
    refine ⟨by simp, .inl ⟨D, _, rfl, run_takeDeferred hk, ?_⟩⟩
    refine ih (Nat.le_trans hn hb.size) (fun w' hb' => hf w' (hb.trans hb')) (List.Pairwise.of_cons h2) fun x hx => ⟨(h3 x (List.mem_cons_of_mem _ hx)).1, ?_⟩
    have hne : x ≠ D := by have := (List.pairwise_cons.1 h2).1 x hx; omega
    exact ((grownBy_putObj' w D (.deferred none)).block x (Array.getElem?_eq_some_iff.1 (h3 x (List.mem_cons_of_mem _ hx)).2).1 (fun e => hne (by cases e; rfl))).trans (h3 x (List.mem_cons_of_mem _ hx)).2

end Go.Proofs.Ytpjcfepngjpfbaa
