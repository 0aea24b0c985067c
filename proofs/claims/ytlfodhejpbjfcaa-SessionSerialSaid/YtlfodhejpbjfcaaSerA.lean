/- The box and four transactions with their logs, as they lie; what a step leaves of them. No walk. -/
import Derived.Test.YtlfodhejpbjfcaaReplay
import Derived.Test.YtlfodhejpbjfcaaDoSz
import Derived.Test.YtlfodhejpbjfcaaAppF
import Derived.Test.YtlfodhejpbjfcaaHeldL
set_option linter.unusedVariables false
set_option linter.unusedSimpArgs false
namespace Go.Proofs.Ytlfodhejpbjfcaa
open Go.RowKit
/-- What lay has not turned, but for cells of the types ts. -/
structure OnT (ts : List TypeId) (A B : World) : Prop where
  os : B.os = A.os
  tape : B.tape = A.tape
  output : B.output = A.output
  size : A.heap.size ≤ B.heap.size
  block : ∀ (k : Nat) (o : Obj), A.heap[k]? = some o → (∀ cs t fz, o = .cells cs t fz → t ∉ ts) → B.heap[k]? = some o
theorem OnT.of {ts : List TypeId} {A B : World} (h : Below A.heap.size A B) : OnT ts A B := ⟨h.os, h.tape, h.output, h.size, fun k o e _ => by rw [h.block k (Array.getElem?_eq_some_iff.1 e).1]; exact e⟩
theorem OnT.refl (ts : List TypeId) (A : World) : OnT ts A A := .of (Below.refl _ _)
theorem OnT.trans {ts : List TypeId} {A B C : World} (h : OnT ts A B) (k : OnT ts B C) : OnT ts A C :=
  ⟨k.os.trans h.os, k.tape.trans h.tape, k.output.trans h.output, Nat.le_trans h.size k.size, fun i o e hn => k.block i o (h.block i o e hn) hn⟩
theorem OnT.keepT {ts : List TypeId} {A B : World} (h : OnT ts A B) {t : TypeId} (ht : t ∉ ts) : KeepT t A B := fun b cs fz e => h.block b _ e (fun cs' t' fz' e' => by cases e'; exact ht)
theorem OnT.cells {ts : List TypeId} {A B : World} (h : OnT ts A B) {k : Nat} {cs : Array Value} {t : TypeId} {fz : Nat × Nat} (e : A.heap[k]? = some (.cells cs t fz)) (ht : t ∉ ts) : B.heap[k]? = some (.cells cs t fz) := h.keepT ht k cs fz e
theorem OnT.set {ts : List TypeId} {A : World} {a : Addr} {cs : Array Value} {t : TypeId} {fz : Nat × Nat} (e : A.heap[a.block]? = some (.cells cs t fz)) (ht : t ∈ ts) (v : Value) : OnT ts A (A.setCell a v) := by
  refine ⟨rfl, rfl, rfl, by simp [World.setCell], fun k o ho hn => ?_⟩
  rw [Below.heap_setCell _ _ _ k (fun e' => ?_)]
  · exact ho
  · subst e'
    rw [e] at ho; cases ho
    exact hn _ _ _ rfl ht
theorem OnT.own {α : Type} {ts : List TypeId} {B₀ : Nat} {w0 w w' : World} {e : TypeId} {size : Nat} {enc : α → List Value} {v : Value} {l : List α} (hS : SlA B₀ w0 e size enc v l) (h0 : Below w0.heap.size w0 w) (hg : w.grownBy w' v.ownBlock) (he : e ∈ ts) : OnT ts w0 w' := by
  refine ⟨hg.os.trans h0.os, hg.tape.trans h0.tape, hg.output.trans h0.output, Nat.le_trans h0.size hg.size, fun k o ho hn => ?_⟩
  have hk := (Array.getElem?_eq_some_iff.1 ho).1
  rw [hg.block k (Nat.lt_of_lt_of_le hk h0.size) ?_, h0.block k hk]
  · exact ho
  · intro e'
    rcases hS.2 with ⟨rfl, _⟩ | ⟨g, cap, cur, rfl, _, hgg, _⟩
    · cases e'
    · obtain rfl : k = g := by simpa [Value.ownBlock] using e'
      rw [hgg] at ho; cases ho
      exact hn _ _ _ rfl he
/-- Two slices whose blocks are not one. -/
def Sep (v u : Value) : Prop := ∀ b, v.ownBlock = some b → u.ownBlock ≠ some b
theorem Sep.symm {v u : Value} (h : Sep v u) : Sep u v := fun b hb hv => h b hv hb
theorem Sep.nil (v : Value) : Sep v (.slice none 0 0) := fun b _ h => by cases h
theorem SlA.lt {α : Type} {B₀ : Nat} {W : World} {e : TypeId} {size : Nat} {enc : α → List Value} {v : Value} {l : List α} (h : SlA B₀ W e size enc v l) {b : Nat} (hb : v.ownBlock = some b) : b < W.heap.size := by
  rcases h.2 with ⟨rfl, _⟩ | ⟨g, cap, cur, rfl, _, hgg, _⟩
  · cases hb
  · obtain rfl : g = b := by simpa [Value.ownBlock] using hb
    exact (Array.getElem?_eq_some_iff.1 hgg).1
namespace S
/-- Four slices in a block of their own. -/
def LgC (W : World) (D : Nat) (t : TypeId) (va : Nat → Sl) : Prop := W.heap[D]? = some (.cells #[slV (va 0), slV (va 1), slV (va 2), slV (va 3)] t (0, 0))
theorem LgC.cell {W : World} {D : Nat} {t : TypeId} {va : Nat → Sl} (h : LgC W D t va) {k : Nat} (hk : k < 4) : W.cell? ⟨D, k, none⟩ = some (slV (va k)) := by
  unfold LgC at h
  rcases four hk with rfl | rfl | rfl | rfl <;> simp [World.cell?, h]
theorem LgC.free {W : World} {D : Nat} {t : TypeId} {va : Nat → Sl} (h : LgC W D t va) (k : Nat) : W.frozen? ⟨D, k, none⟩ = false := by
  unfold LgC at h
  simp [World.frozen?, h]
theorem LgC.set {W : World} {D : Nat} {t : TypeId} {va : Nat → Sl} (h : LgC W D t va) {k : Nat} (hk : k < 4) (s : Sl) : LgC (W.setCell ⟨D, k, none⟩ (slV s)) D t (up va k s) := by
  unfold LgC at h ⊢
  rw [heap_set0 _ h]
  rcases four hk with rfl | rfl | rfl | rfl <;> rfl
section
variable {α : Type} {lo : Nat} {D : Nat} {t t' e : TypeId} {size bytes : Nat} {enc : α → List Value} {va : Nat → Sl} {L : Nat → List α}
def Half (lo : Nat) (W : World) (D : Nat) (t e : TypeId) (size : Nat) (enc : α → List Value) (va : Nat → Sl) (L : Nat → List α) : Prop :=
  LgC W D t va ∧ lo ≤ D ∧ (∀ k, k < 4 → SlA lo W e size enc (slV (va k)) (L k)) ∧ ∀ j k, j < 4 → k < 4 → j ≠ k → Sep (slV (va j)) (slV (va k))
/-- The same but for slice k, which is to be s, of the list l. -/
def HalfBut (k : Nat) (s : Sl) (l : List α) (lo : Nat) (W : World) (D : Nat) (t e : TypeId) (size : Nat) (enc : α → List Value) (va : Nat → Sl) (L : Nat → List α) : Prop :=
  LgC W D t va ∧ lo ≤ D ∧ SlA lo W e size enc (slV s) l ∧ (∀ j, j < 4 → j ≠ k → SlA lo W e size enc (slV (va j)) (L j) ∧ Sep (slV (va j)) (slV s)) ∧ ∀ i j, i < 4 → j < 4 → i ≠ j → i ≠ k → j ≠ k → Sep (slV (va i)) (slV (va j))
theorem Half.keep {A B : World} (h : Half lo A D t e size enc va L) (h1 : KeepT t A B) (h2 : KeepT e A B) : Half lo B D t e size enc va L := by
  obtain ⟨a, b, c, d⟩ := h
  exact ⟨h1 _ _ _ a, b, fun k hk => (c k hk).keep h2, d⟩
theorem HalfBut.keep {k : Nat} {s : Sl} {l : List α} {A B : World} (h : HalfBut k s l lo A D t e size enc va L) (h1 : KeepT t A B) (h2 : KeepT e A B) : HalfBut k s l lo B D t e size enc va L := by
  obtain ⟨a, b, c, d, f⟩ := h
  exact ⟨h1 _ _ _ a, b, c.keep h2, fun j hj hn => ⟨(d j hj hn).1.keep h2, (d j hj hn).2⟩, f⟩
theorem Half.nilBut {W : World} (h : Half lo W D t e size enc va L) (k : Nat) : HalfBut k sl0 [] lo W D t e size enc va L :=
  ⟨h.1, h.2.1, SlA.nil _ _ _ _ _, fun j hj _ => ⟨h.2.2.1 j hj, Sep.nil _⟩, fun i j hi hj hij _ _ => h.2.2.2 i j hi hj hij⟩
theorem HalfBut.store {k : Nat} {s : Sl} {l : List α} {W : World} (h : HalfBut k s l lo W D t e size enc va L) (hk : k < 4) (hte : t ≠ e) : Half lo (W.setCell ⟨D, k, none⟩ (slV s)) D t e size enc (up va k s) (up L k l) := by
  obtain ⟨a, b, c, d, f⟩ := h
  have ks : ∀ {v : Value} {x : List α}, SlA lo W e size enc v x → SlA lo (W.setCell ⟨D, k, none⟩ (slV s)) e size enc v x := fun hx => hx.setCell (a := ⟨D, k, none⟩) (slV s) a hte
  refine ⟨a.set hk s, b, fun j hj => ?_, fun i j hi hj hij => ?_⟩
  · unfold up
    split
    · exact ks c
    · exact ks (d j hj ‹_›).1
  · unfold up
    split
    · split
      · omega
      · exact (d j hj ‹_›).2.symm
    · split
      · exact (d i hi ‹_›).2
      · exact f i j hi hj hij ‹_› ‹_›
/-- append to slice k. -/
theorem Half.app (hE : Elem Try.prog t' e size bytes) (he : ∀ a, (enc a).length = size) (ty : TypeId) {w0 : World} (h : Half lo w0 D t e size enc va L) {k : Nat} (hk : k < 4) (hte : t ≠ e) (hlo : lo ≤ w0.heap.size) (y : α) (c : Nat) {cs : Array Value} (hcs : cs.toList = enc y) (h1 : ∀ u ∈ enc y, u.oneCell' = true)
    (hbytes : ((L k).length + 1) * bytes ≤ 140737488355328) {ts : List TypeId} (hts : e ∈ ts) :
    ∃ (s : Sl) (w' : World), (Builtin.append_ #[t', t'] ty #[slV (va k), .slice (some ⟨w0.heap.size, 0, none⟩) 1 c]).run Try.prog (w0.alloc (.cells cs e)) = .ok (slV s) w' ∧
      HalfBut k s (L k ++ [y]) lo w' D t e size enc va L ∧ OnT ts w0 w' ∧ Below lo w0 w' ∧ (∀ g, (slV (va k)).ownBlock ≠ some g → ∀ o, w0.heap[g]? = some o → w'.heap[g]? = some o) := by
  obtain ⟨a, b, hc, d⟩ := h
  obtain ⟨v', w', hrun, hS, hg, hB, hO⟩ := run_app1F (P := Try.prog) hE he ty (hc k hk) y c hcs h1 hbytes hlo
  obtain ⟨s, rfl, -⟩ := hS.sl
  have hal : Below w0.heap.size w0 (w0.alloc (.cells cs e)) := (Below.refl _ _).alloc (Nat.le_refl _) _
  have hon : OnT ts w0 w' := OnT.own (hc k hk) hal hg hts
  have hother : ∀ g, (slV (va k)).ownBlock ≠ some g → ∀ o, w0.heap[g]? = some o → w'.heap[g]? = some o := fun g hn o ho => by
    have hlt := (Array.getElem?_eq_some_iff.1 ho).1
    rw [hg.block g (Nat.lt_of_lt_of_le hlt hal.size) (fun e' => hn e'.symm), hal.block g hlt]; exact ho
  have hD : LgC w' D t va := by
    refine hother D (fun e' => ?_) _ a
    rcases (hc k hk).2 with ⟨e0, _⟩ | ⟨g, cap, cur, e0, _, hgg, _⟩
    · rw [e0] at e'; cases e'
    · rw [e0] at e'
      obtain rfl : g = D := by simpa [Value.ownBlock] using e'
      unfold LgC at a
      rw [a] at hgg; cases hgg; exact hte rfl
  refine ⟨s, w', hrun, ⟨hD, b, hS, fun j hj hn => ⟨?_, ?_⟩, fun i j hi hj hij _ _ => d i j hi hj hij⟩, hon, hB, hother⟩
  · refine World.ownsRow.kept (World.ownsRow.alloc (hc j hj) _) hg ?_
    cases hb : (slV (va j)).ownBlock with
    | none => exact .inl rfl
    | some g => exact .inr (fun e' => d j k hj hk hn g hb e'.symm)
  · intro g hg1 hg2
    rcases hO with h | ⟨g', h, hge⟩
    · rw [h] at hg2; exact d j k hj hk hn g hg1 hg2
    · rw [h] at hg2
      have := (hc j hj).lt hg1
      cases hg2; omega
end
abbrev Slots3 := Nat → Option (Tx × RT × List (ActS × Int))
def tsS (f : Slots3) : Nat → Option Addr := fun k => (f k).map fun y => ⟨y.1.t, 0, none⟩
def lgA (f : Slots3) : Nat → List ActS := fun k => match f k with | some y => y.2.2.map Prod.fst | none => []
def lgI (f : Slots3) : Nat → List Int := fun k => match f k with | some y => y.2.2.map Prod.snd | none => []
def OkA (a : ActS × Int) : Prop := a.1.1 < 256 ∧ a.1.2.1 < 256 ∧ a.1.2.2.1.size ≤ maxLen
/-- One transaction. -/
def SlotS (K lo : Nat) (W : World) (X : Bx) (Vs : List Ver) (y : Tx × RT × List (ActS × Int)) : Prop :=
  TxAt W X.b y.1 ∧ X.apart y.1 ∧ TxInv X.N y.1 y.2.1 ∧ Sz K y.1 y.2.1 ∧ HistT Vs y.1 ∧ (y.1.d = false → RepOk y.1 y.2.2) ∧ (lo ≤ y.1.t ∧ lo ≤ y.1.r ∧ lo ≤ y.1.c) ∧ y.2.2.length ≤ K ∧ ∀ a ∈ y.2.2, OkA a
def SerAt (K lo : Nat) (W : World) (p : Nat) (X : Bx) (Vs : List Ver) (m : Sl) (rs : Nat → R5) (f : Slots3) : Prop :=
  PlC W p X.b m (tsS f) rs ∧ BxAt W X ∧ BoxInv X Vs ∧ SzB K X Vs ∧ (lo ≤ p ∧ lo ≤ X.b ∧ lo ≤ X.m ∧ lo ≤ W.heap.size) ∧ (∀ k, k < 4 → ∀ y, f k = some y → SlotS K lo W X Vs y) ∧
  ∀ j k, j < 4 → k < 4 → j ≠ k → ∀ y z, f j = some y → f k = some z → y.1.apart z.1
abbrev tsL : List TypeId := [29, 3, 62, 64]
theorem TxAt.onT {A B : World} {b : Nat} {x : Tx} (h : TxAt A b x) (ho : OnT tsL A B) : TxAt B b x := by
  obtain ⟨h1, h2, h3, h4, h5⟩ := h
  have hm : ∀ {β : Type} {ev : β → Value} {k : Nat} {l : List (ByteArray × β)}, MapAt ev A k l → MapAt ev B k l := fun {β ev k l} hmm => by
    refine hmm.of_block ?_
    obtain ⟨o, ho'⟩ : ∃ o, A.heap[k]? = some o := ⟨_, Array.getElem?_eq_getElem hmm.lt⟩
    rw [ho', ho.block k o ho' (fun cs t fz e => by subst e; exact (mapUnlike hmm ho' rfl).elim)]
  exact ⟨ho.cells h1 (by decide), h2.keep (ho.keepT (by decide)), hm h3, hm h4, h5⟩
theorem BxAt.onT {A B : World} {X : Bx} (h : BxAt A X) (ho : OnT tsL A B) : BxAt B X := by
  obtain ⟨h1, h2, h3⟩ := h
  refine ⟨ho.cells h1 (by decide), h2.keep (ho.keepT (by decide)), h3.of_block ?_⟩
  obtain ⟨o, ho'⟩ : ∃ o, A.heap[X.m]? = some o := ⟨_, Array.getElem?_eq_getElem h3.lt⟩
  rw [ho', ho.block _ o ho' (fun cs t fz e => by subst e; exact (mapUnlike h3 ho' rfl).elim)]
theorem SerAt.onT {K lo p : Nat} {A B : World} {X : Bx} {Vs : List Ver} {m : Sl} {rs : Nat → R5} {f : Slots3} (h : SerAt K lo A p X Vs m rs f) (ho : OnT tsL A B) : SerAt K lo B p X Vs m rs f := by
  obtain ⟨h1, h2, h3, h4, ⟨g1, g2, g3, g4⟩, h6, h7⟩ := h
  refine ⟨ho.cells h1 (by decide), h2.onT ho, h3, h4, ⟨g1, g2, g3, Nat.le_trans g4 ho.size⟩, fun k hk y hy => ?_, h7⟩
  obtain ⟨t1, t2⟩ := h6 k hk y hy
  exact ⟨t1.onT ho, t2⟩
theorem SlotS.mono {K K' lo : Nat} {W : World} {X : Bx} {Vs : List Ver} {y : Tx × RT × List (ActS × Int)} (h : SlotS K lo W X Vs y) (hk : K ≤ K') : SlotS K' lo W X Vs y := by
  obtain ⟨t1, t2, t3, t4, t5, t6, t7, t8, t9⟩ := h
  exact ⟨t1, t2, t3, t4.mono hk, t5, t6, t7, Nat.le_trans t8 hk, t9⟩
theorem SerAt.mono {K K' lo p : Nat} {A : World} {X : Bx} {Vs : List Ver} {m : Sl} {rs : Nat → R5} {f : Slots3} (h : SerAt K lo A p X Vs m rs f) (hk : K ≤ K') : SerAt K' lo A p X Vs m rs f := by
  obtain ⟨h1, h2, h3, h4, h5, h6, h7⟩ := h
  exact ⟨h1, h2, h3, h4.mono hk, h5, fun k hk' y hy => (h6 k hk' y hy).mono hk, h7⟩
/-- What a step leaves of the rest. -/
def Rest (lo : Nat) (A B : World) : Prop := Below lo A B ∧ ∀ t : TypeId, t ≠ 158 → t ≠ 120 → KeepT t A B
/-- Behind a call on a transaction. -/
theorem SerAt.step {K lo p k : Nat} {W w1 : World} {X X' : Bx} {Vs Vs' : List Ver} {m : Sl} {rs : Nat → R5} {f : Slots3} {x x' : Tx} {t t' : RT} {A A' : List (ActS × Int)} (hP : SerAt K lo W p X Vs m rs f) (hk : k < 4) (hf : f k = some (x, t, A))
    (hL : Left W w1 X X' x x') (hX1 : X'.b = X.b) (hX2 : X'.m = X.m) (hx1 : x'.t = x.t) (hx2 : x'.r = x.r) (hx3 : x'.c = x.c) (hB' : BoxInv X' Vs') (hN : X.N ≤ X'.N) (hI : TxInv X'.N x' t') (hS : Sz (K + 1) x' t') (hSB : SzB (K + 1) X' Vs')
    (hH : ∀ y, HistT Vs y → HistT Vs' y) (hH' : HistT Vs' x') (hR : x'.d = false → RepOk x' A') (hA1 : A'.length ≤ K + 1) (hA2 : ∀ a ∈ A', OkA a) :
    SerAt (K + 1) lo w1 p X' Vs' m rs (up f k (some (x', t', A'))) ∧ Rest lo W w1 := by
  obtain ⟨h1, h2, h3, h4, ⟨g1, g2, g3, g4⟩, h6, h7⟩ := hP
  obtain ⟨s1, s2, s3, s4, s5, s6, ⟨s7, s8, s9⟩, s10, s11⟩ := h6 k hk _ hf
  dsimp only at *
  obtain ⟨l1, l2, l3, l4⟩ := hL
  have hLL : Left W w1 X X' x x' := ⟨l1, l2, l3, l4⟩
  have np := h1.ne_tx s1; have nb := h1.ne_box h2
  have p1 : PlC w1 p X.b m (tsS f) rs := l4.obj (by simp; exact ⟨np.1, np.2.1, np.2.2, nb.1, nb.2⟩) h1
  have hts : tsS f = tsS (up f k (some (x', t', A'))) := by
    funext j
    unfold tsS up
    split
    · rename_i e
      subst e
      rw [hf]
      simp [hx1]
    · rfl
  refine ⟨⟨by rw [hX1, ← hts]; exact p1, l2, hB', hSB, ⟨g1, by rw [hX1]; exact g2, by rw [hX2]; exact g3, Nat.le_trans g4 l4.size⟩, ?_, ?_⟩, l4.below (by simp; exact ⟨s7, s8, s9, g2, g3⟩) g4, fun t a b => Left.rest h2 s1 hLL a b⟩
  · intro j hj y hy
    by_cases e : j = k
    · subst e
      simp only [up, if_true] at hy
      cases hy
      exact ⟨by rw [hX1]; exact l1, ⟨by rw [hX2, hx2]; exact s2.1, by rw [hX2, hx3]; exact s2.2⟩, hI, hS, hH', hR, ⟨by rw [hx1]; exact s7, by rw [hx2]; exact s8, by rw [hx3]; exact s9⟩, hA1, hA2⟩
    · simp only [up, if_neg e] at hy
      obtain ⟨t1, t2, t3, t4, t5, t6, t7, t8, t9⟩ := h6 j hj y hy
      have hap := h7 k j hk hj (Ne.symm e) _ _ hf hy
      exact ⟨by rw [hX1]; exact l3 y.1 t1 hap t2, ⟨by rw [hX2]; exact t2.1, by rw [hX2]; exact t2.2⟩, t3.mono hN, t4.mono (by omega), hH _ t5, t6, t7, by omega, t9⟩
  · intro i j hi hj hij y z hy hz
    have ap : ∀ {i}, i < 4 → i ≠ k → ∀ {y}, f i = some y → Tx.apart x' y.1 := fun {i} hi hik {y} hy => by
      have := h7 k i hk hi (Ne.symm hik) _ _ hf hy
      dsimp only at this
      unfold Tx.apart at this ⊢
      rw [hx1, hx2, hx3]; exact this
    by_cases e1 : i = k
    · have e2 : j ≠ k := fun e => hij (e1.trans e.symm)
      subst e1
      simp only [up, if_true, if_neg e2] at hy hz
      cases hy
      exact ap hj e2 hz
    · by_cases e2 : j = k
      · subst e2
        simp only [up, if_true, if_neg e1] at hy hz
        cases hz
        exact (ap hi e1 hy).symm
      · simp only [up, if_neg e1, if_neg e2] at hy hz
        exact h7 i j hi hj hij y z hy hz
/-- A new transaction's blocks are no other's. -/
theorem SerAt.fresh {K lo p : Nat} {W : World} {X : Bx} {Vs : List Ver} {m : Sl} {rs : Nat → R5} {f : Slots3} (hP : SerAt K lo W p X Vs m rs f) {x : Tx} (g1 : W.heap.size ≤ x.t) (g2 : W.heap.size ≤ x.r) (g3 : W.heap.size ≤ x.c) :
    X.apart x ∧ (∀ j, j < 4 → ∀ y, f j = some y → x.apart y.1) ∧ lo ≤ x.t ∧ lo ≤ x.r ∧ lo ≤ x.c := by
  obtain ⟨h1, h2, h3, h4, ⟨z1, z2, z3, z4⟩, h6, h7⟩ := hP
  have hXl := h2.2.2.lt
  refine ⟨⟨by omega, by omega⟩, fun j hj y hy => ?_, by omega, by omega, by omega⟩
  obtain ⟨l1, -, l2, l3, -⟩ := (h6 j hj y hy).1
  have l1 := (Array.getElem?_eq_some_iff.1 l1).1; have l2 := l2.lt; have l3 := l3.lt
  exact ⟨by omega, by omega, by omega, by omega, by omega⟩
/-- A new transaction in place k. -/
theorem SerAt.put {K lo p k : Nat} {W : World} {X : Bx} {Vs : List Ver} {m : Sl} {rs : Nat → R5} {f : Slots3} {x : Tx} {t : RT} (hP : SerAt K lo W p X Vs m rs f) (hk : k < 4) (hx : TxAt W X.b x) (ha : X.apart x) (hap : ∀ j, j < 4 → ∀ y, f j = some y → x.apart y.1) (hlo : lo ≤ x.t ∧ lo ≤ x.r ∧ lo ≤ x.c)
    (hI : TxInv X.N x t) (hS : Sz (K + 1) x t) (hH : HistT Vs x) (hR : x.d = false → RepOk x []) :
    SerAt (K + 1) lo (W.setCell ⟨p, 2 + k, none⟩ (.pointer (some ⟨x.t, 0, none⟩))) p X Vs m rs (up f k (some (x, t, []))) := by
  obtain ⟨h1, h2, h3, h4, ⟨z1, z2, z3, z4⟩, h6, h7⟩ := hP
  have hB : BC p W (W.setCell ⟨p, 2 + k, none⟩ (.pointer (some ⟨x.t, 0, none⟩))) := (BC.refl p W).set (p := ⟨p, 2 + k, none⟩) (.inr rfl) _
  have hts : tsS (up f k (some (x, t, []))) = up (tsS f) k (some ⟨x.t, 0, none⟩) := by
    funext j
    unfold tsS up
    split <;> rfl
  refine ⟨by rw [hts]; exact h1.setTxn hk _, h2.player h1 hB, h3, h4.mono (by omega), ⟨z1, z2, z3, Nat.le_trans z4 hB.size⟩, ?_, ?_⟩
  · intro j hj y hy
    by_cases e : j = k
    · subst e
      simp only [up, if_true] at hy
      cases hy
      exact ⟨hx.player h1 hB, ha, hI, hS, hH, hR, hlo, by simp, by simp⟩
    · simp only [up, if_neg e] at hy
      obtain ⟨t1, t2, t3, t4, t5, t6, t7, t8, t9⟩ := h6 j hj y hy
      exact ⟨t1.player h1 hB, t2, t3, t4.mono (by omega), t5, t6, t7, by omega, t9⟩
  · intro i j hi hj hij y z hy hz
    by_cases e1 : i = k
    · have e2 : j ≠ k := fun e => hij (e1.trans e.symm)
      subst e1
      simp only [up, if_true, if_neg e2] at hy hz
      cases hy
      exact hap j hj _ hz
    · by_cases e2 : j = k
      · subst e2
        simp only [up, if_true, if_neg e1] at hy hz
        cases hz
        exact (hap i hi _ hy).symm
      · simp only [up, if_neg e1, if_neg e2] at hy hz
        exact h7 i j hi hj hij y z hy hz
end S
end Go.Proofs.Ytlfodhejpbjfcaa
