/- The player as a whole, and what an act does to it. No walk. -/
import Derived.Test.YtlfodhejpbjfcaaPlayB
set_option linter.unusedVariables false
set_option linter.unusedSimpArgs false
namespace Go.Proofs.Ytlfodhejpbjfcaa
open Go.RowKit
namespace S
def Sz (K : Nat) (x : Tx) (t : RT) : Prop := x.rd.length ≤ K ∧ x.ch.length ≤ K ∧ t.sees.length ≤ 20 + 61 * K ∧ t.read.length ≤ K ∧ t.changed.length ≤ K
def SzB (K : Nat) (X : Bx) (Vs : List Ver) : Prop := X.T.sz ≤ 20 + 60 * K ∧ X.last.length ≤ 60 * K ∧ Vs.length ≤ K + 1 ∧ ∀ V ∈ Vs, V.1.length ≤ 20 + 60 * K ∧ V.2.length ≤ K
theorem Sz.mono {K K' : Nat} {x : Tx} {t : RT} (h : Sz K x t) (hk : K ≤ K') : Sz K' x t := by obtain ⟨a, b, c, d, e⟩ := h; exact ⟨by omega, by omega, by omega, by omega, by omega⟩
theorem SzB.mono {K K' : Nat} {X : Bx} {Vs : List Ver} (h : SzB K X Vs) (hk : K ≤ K') : SzB K' X Vs := by
  obtain ⟨a, b, c, d⟩ := h
  exact ⟨by omega, by omega, by omega, fun V hV => ⟨by have := (d V hV).1; omega, by have := (d V hV).2; omega⟩⟩
abbrev Slots := Nat → Option (Tx × RT)
def tsOf (f : Slots) : Nat → Option Addr := fun k => (f k).map fun y => ⟨y.1.t, 0, none⟩
/-- Which blocks the player may turn: those from lo on that are not among ex; and the box's block. -/
structure Lo where
  lo : Nat
  ex : List Nat
  bx : Nat
def Lo.ok (n0 : Lo) (k : Nat) : Prop := n0.lo ≤ k ∧ k ∉ n0.ex
def Lo.at (n0 : Lo) (W : World) : Prop := n0.lo ≤ W.heap.size ∧ ∀ e ∈ n0.ex, e < W.heap.size
theorem Lo.at.grow {n0 : Lo} {A B : World} (h : n0.at A) (hs : A.heap.size ≤ B.heap.size) : n0.at B := ⟨Nat.le_trans h.1 hs, fun e he => Nat.lt_of_lt_of_le (h.2 e he) hs⟩
theorem Lo.at.new {n0 : Lo} {A : World} (h : n0.at A) {k : Nat} (hk : A.heap.size ≤ k) : n0.ok k := ⟨Nat.le_trans h.1 hk, fun e => by have := h.2 k e; omega⟩
/-- What has not turned. -/
structure Fr (n0 : Lo) (A B : World) : Prop where
  os : B.os = A.os
  tape : B.tape = A.tape
  output : B.output = A.output
  size : A.heap.size ≤ B.heap.size
  block : ∀ k, k < A.heap.size → (k < n0.lo ∨ k ∈ n0.ex) → B.heap[k]? = A.heap[k]?
  keep : ∀ t : TypeId, t ≠ 158 → t ≠ 120 → t ≠ 43 → KeepT t A B
theorem Fr.of {n0 : Lo} {A B : World} (h : Below A.heap.size A B) : Fr n0 A B := ⟨h.os, h.tape, h.output, h.size, fun k hk _ => h.block k hk, fun _ _ _ _ => KeepT.below h⟩
theorem Fr.trans {n0 : Lo} {A B C : World} (h : Fr n0 A B) (k : Fr n0 B C) : Fr n0 A C :=
  ⟨k.os.trans h.os, k.tape.trans h.tape, k.output.trans h.output, Nat.le_trans h.size k.size, fun i hi hn => (k.block i (Nat.lt_of_lt_of_le hi h.size) hn).trans (h.block i hi hn), fun t a b c => (h.keep t a b c).trans (k.keep t a b c)⟩
theorem Fr.below {n0 : Lo} {A B : World} (h : Fr n0 A B) (ha : n0.at A) : Below n0.lo A B := ⟨h.os, h.tape, h.output, h.size, fun k hk => h.block k (Nat.lt_of_lt_of_le hk ha.1) (.inl hk)⟩
/-- One transaction beside the reference's. -/
def Slot (K : Nat) (n0 : Lo) (W : World) (X : Bx) (r : R5) (y : Tx × RT) : Prop :=
  TxAt W X.b y.1 ∧ X.apart y.1 ∧ TxInv X.N y.1 y.2 ∧ Sz K y.1 y.2 ∧ RtAt W r.2.1 r.2.2.1 r.2.2.2.1 y.2 ∧ r.1 = y.2.began ∧ r.2.2.2.2 = y.2.done ∧ n0.ok y.1.t ∧ n0.ok y.1.r ∧ n0.ok y.1.c
/-- The player. -/
def PlAt (K : Nat) (n0 : Lo) (W : World) (p : Nat) (X : Bx) (Vs : List Ver) (m : Sl) (rs : Nat → R5) (f : Slots) : Prop :=
  PlC W p X.b m (tsOf f) rs ∧ VersAt W (slV m) Vs ∧ BxAt W X ∧ BoxInv X Vs ∧ SzB K X Vs ∧ (n0.ok p ∧ n0.ok X.b ∧ n0.ok X.m ∧ n0.at W ∧ X.b = n0.bx) ∧
  (∀ k, k < 4 → ∀ y, f k = some y → Slot K n0 W X (rs k) y) ∧
  (∀ j k, j < 4 → k < 4 → j ≠ k → ∀ y z, f j = some y → f k = some z → y.1.apart z.1)
section
variable {W : World} {p b : Nat} {m : Sl} {ts : Nat → Option Addr} {rs : Nat → R5}
theorem PlC.ne_tx (h : PlC W p b m ts rs) {b' : Nat} {x : Tx} (hx : TxAt W b' x) : p ≠ x.t ∧ p ≠ x.r ∧ p ≠ x.c := by
  refine ⟨fun e => ?_, mapUnlike hx.2.2.1 h, mapUnlike hx.2.2.2.1 h⟩
  have h1 := hx.1
  unfold PlC at h; unfold TxnC at h1
  rw [e, h1] at h; cases h
theorem PlC.ne_box (h : PlC W p b m ts rs) {X : Bx} (hx : BxAt W X) : p ≠ X.b ∧ p ≠ X.m := by
  refine ⟨fun e => ?_, mapUnlike hx.2.2 h⟩
  have h1 := hx.1
  unfold PlC at h; unfold BoxC at h1
  rw [e, h1] at h; cases h
theorem PlC.keepT (h : PlC W p b m ts rs) {W' : World} (hb : BC p W W') {t : TypeId} (ht : t ≠ 43) : KeepT t W W' := fun k cs fz e => hb.obj (fun ek => by
  unfold PlC at h
  rw [ek, h] at e
  simp only [Option.some.injEq, Obj.cells.injEq] at e
  exact ht e.2.1.symm) e
/-- A transaction stands where the player's block alone has turned. -/
theorem TxAt.player (h : PlC W p b m ts rs) {W' : World} (hb : BC p W W') {b' : Nat} {x : Tx} (hx : TxAt W b' x) : TxAt W' b' x := by
  obtain ⟨n1, n2, n3⟩ := h.ne_tx hx
  obtain ⟨h1, h2, h3, h4, h5⟩ := hx
  exact ⟨hb.obj n1.symm h1, h2.keep (h.keepT hb (by decide)), MapAt.bc h3 hb n2.symm, MapAt.bc h4 hb n3.symm, h5⟩
theorem BxAt.player (h : PlC W p b m ts rs) {W' : World} (hb : BC p W W') {X : Bx} (hx : BxAt W X) : BxAt W' X := by
  obtain ⟨n1, n2⟩ := h.ne_box hx
  obtain ⟨h1, h2, h3⟩ := hx
  exact ⟨hb.obj n1.symm h1, h2.keep (h.keepT hb (by decide)), MapAt.bc h3 hb n2.symm⟩
theorem RtAt.player (h : PlC W p b m ts rs) {W' : World} (hb : BC p W W') {x y z : Sl} {t : RT} (ht : RtAt W x y z t) : RtAt W' x y z t :=
  ⟨ht.1.keep (h.keepT hb (by decide)), ht.2.1.keep (h.keepT hb (by decide)), ht.2.2.keep (h.keepT hb (by decide))⟩
theorem VersAt.player (h : PlC W p b m ts rs) {W' : World} (hb : BC p W W') {v : Value} {Vs : List Ver} (hv : VersAt W v Vs) : VersAt W' v Vs := hv.keep (h.keepT hb (by decide)) (h.keepT hb (by decide)) (h.keepT hb (by decide))
end
/-- What a call on a transaction leaves of the rest. -/
theorem Left.rest {W w' : World} {X X' : Bx} {x x' : Tx} (hX : BxAt W X) (hx : TxAt W X.b x) (hL : Left W w' X X' x x') :
    (∀ {t : TypeId}, t ≠ 158 → t ≠ 120 → KeepT t W w') := fun {t} h1 h2 => by
  refine keepBl hL.2.2.2 ?_ h1 h2
  have n1 := hx.noNode; have n2 := hX.noNode
  intro k hk
  simp only [List.mem_cons, List.not_mem_nil, or_false] at hk
  rcases hk with rfl | rfl | rfl | rfl | rfl
  · exact n1.1
  · exact n1.2.1
  · exact n1.2.2
  · exact n2.1
  · exact n2.2
theorem tsOf_up (f : Slots) (k : Nat) (y : Tx × RT) (hk : ∃ y0, f k = some y0 ∧ y0.1.t = y.1.t) : tsOf f = tsOf (up f k (some y)) := by
  funext j
  unfold tsOf up
  split
  · rename_i e
    obtain ⟨y0, h0, ht⟩ := hk
    subst e
    rw [h0]
    simp [ht]
  · rfl
theorem tsOf_up' (f : Slots) (k : Nat) (y : Tx × RT) : up (tsOf f) k (some ⟨y.1.t, 0, none⟩) = tsOf (up f k (some y)) := by
  funext j
  unfold tsOf up
  split <;> rfl
/-- Behind an act on a transaction: the program's call (w1), the reference's call (w2), the player's block written (w3). -/
theorem PlAt.step {K p k : Nat} {n0 : Lo} {W w1 w2 w3 : World} {X X' : Bx} {Vs Vs' : List Ver} {m m' : Sl} {rs : Nat → R5} {f : Slots} {x x' : Tx} {t t' : RT} (hP : PlAt K n0 W p X Vs m rs f) (hk : k < 4) (hf : f k = some (x, t))
    (hL : Left W w1 X X' x x') (hX1 : X'.b = X.b) (hX2 : X'.m = X.m) (hx1 : x'.t = x.t) (hx2 : x'.r = x.r) (hx3 : x'.c = x.c) (hb : Below w1.heap.size w1 w2) (hB' : BoxInv X' Vs') (hN : X.N ≤ X'.N) (hI : TxInv X'.N x' t') (hS : Sz (K + 1) x' t') (hSB : SzB (K + 1) X' Vs')
    {r : R5} (hr : RtAt w2 r.2.1 r.2.2.1 r.2.2.2.1 t') (hr1 : r.1 = t'.began) (hr2 : r.2.2.2.2 = t'.done) (hV' : VersAt w2 (slV m') Vs')
    (hbc : ∀ ts rs', PlC w2 p X.b m ts rs' → BC p w2 w3) (hpc : ∀ ts, PlC w2 p X.b m ts rs → PlC w3 p X.b m' ts (up rs k r)) :
    PlAt (K + 1) n0 w3 p X' Vs' m' (up rs k r) (up f k (some (x', t'))) ∧ Fr n0 W w3 := by
  obtain ⟨h1, h2, h3, h4, h5, ⟨g1, g2, g3, g4, g5⟩, h6, h7⟩ := hP
  obtain ⟨s1, s2, s3, s4, s5, s6, s7, s8, s9, s10⟩ := h6 k hk _ hf
  dsimp only at *
  obtain ⟨l1, l2, l3, l4⟩ := hL
  have hLL : Left W w1 X X' x x' := ⟨l1, l2, l3, l4⟩
  have np := h1.ne_tx s1; have nb := h1.ne_box h3
  have p1 : PlC w1 p X.b m (tsOf f) rs := l4.obj (by simp; exact ⟨np.1, np.2.1, np.2.2, nb.1, nb.2⟩) h1
  have p2 : PlC w2 p X.b m (tsOf f) rs := box_below hb p1
  have hB := hbc _ _ p2
  have p3 := hpc _ p2
  have kt : ∀ {ty : TypeId}, ty ≠ 158 → ty ≠ 120 → ty ≠ 43 → KeepT ty W w3 := fun a b c => ((Left.rest h3 s1 hLL a b).trans (KeepT.below hb)).trans (p2.keepT hB c)
  have hsz : W.heap.size ≤ w3.heap.size := Nat.le_trans l4.size (Nat.le_trans hb.size hB.size)
  refine ⟨⟨?_, hV'.player p2 hB, (l2.below hb).player p2 hB, hB', hSB, ⟨g1, by rw [hX1]; exact g2, by rw [hX2]; exact g3, g4.grow hsz, hX1.trans g5⟩, ?_, ?_⟩, ?_⟩
  · rw [hX1, ← tsOf_up f k (x', t') ⟨_, hf, hx1.symm⟩]; exact p3
  · intro j hj y hy
    by_cases e : j = k
    · subst e
      simp only [up, if_true] at hy ⊢
      cases hy
      refine ⟨by rw [hX1]; exact (l1.below hb).player p2 hB, ?_, hI, hS, hr.player p2 hB, hr1, hr2, by rw [hx1]; exact s8, by rw [hx2]; exact s9, by rw [hx3]; exact s10⟩
      exact ⟨by rw [hX2, hx2]; exact s2.1, by rw [hX2, hx3]; exact s2.2⟩
    · simp only [up, if_neg e] at hy ⊢
      obtain ⟨t1, t2, t3, t4, t5, t6, t7, t8, t9, t10⟩ := h6 j hj y hy
      have hap := h7 k j hk hj (Ne.symm e) _ _ hf hy
      refine ⟨by rw [hX1]; exact ((l3 y.1 t1 hap t2).below hb).player p2 hB, ⟨by rw [hX2]; exact t2.1, by rw [hX2]; exact t2.2⟩, t3.mono hN, t4.mono (by omega), ?_, t6, t7, t8, t9, t10⟩
      exact ⟨t5.1.keep (kt (by decide) (by decide) (by decide)), t5.2.1.keep (kt (by decide) (by decide) (by decide)), t5.2.2.keep (kt (by decide) (by decide) (by decide))⟩
  · intro i j hi hj hij y z hy hz
    have ap : ∀ {i}, i < 4 → i ≠ k → ∀ {y}, f i = some y → Tx.apart x' y.1 := fun {i} hi hik {y} hy => by
      have := h7 k i hk hi (Ne.symm hik) _ _ hf hy
      dsimp only at this
      unfold Tx.apart at this ⊢
      rw [hx1, hx2, hx3]; exact this
    by_cases e1 : i = k
    · have e2 : j ≠ k := fun e => hij (e1.trans e.symm)
      subst e1
      simp only [up, if_true, if_neg e2] at hy hz
      cases hy
      exact ap hj e2 hz
    · by_cases e2 : j = k
      · subst e2
        simp only [up, if_true, if_neg e1] at hy hz
        cases hz
        exact (ap hi e1 hy).symm
      · simp only [up, if_neg e1, if_neg e2] at hy hz
        exact h7 i j hi hj hij y z hy hz
  · refine ⟨hB.os.trans (hb.os.trans l4.os), hB.tape.trans (hb.tape.trans l4.tape), hB.output.trans (hb.output.trans l4.output), hsz, fun i hi hn => ?_, fun t a b c => kt a b c⟩
    have hne : ∀ k, n0.ok k → i ≠ k := fun k hk e => by subst e; rcases hn with hn | hn; exact absurd hk.1 (by omega); exact hk.2 hn
    have e1 := l4.block i hi (by simp only [List.mem_cons, List.not_mem_nil, or_false, not_or]; exact ⟨hne _ s8, hne _ s9, hne _ s10, hne _ g2, hne _ g3⟩)
    have e2 := hb.block i (Nat.lt_of_lt_of_le hi l4.size)
    have e3 := hB.block i (Nat.lt_of_lt_of_le hi (Nat.le_trans l4.size hb.size)) (hne _ g1)
    exact e3.trans (e2.trans e1)
theorem readG_len (d : Bool) (rd : List (ByteArray × Bool)) (ch : List (ByteArray × (Int × Bool))) (s : ByteArray) : (readG d rd ch s).length ≤ rd.length + 1 := by
  unfold readG readN
  split
  · split
    · omega
    · exact putA_length.2
  · omega
end S
end Go.Proofs.Ytlfodhejpbjfcaa
